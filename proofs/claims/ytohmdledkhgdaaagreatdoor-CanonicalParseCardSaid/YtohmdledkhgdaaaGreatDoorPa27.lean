/- bulletinref18.Form of a valid content (printed by gen_rform.py). -/
import Derived.Test.YtohmdledkhgdaaaGreatDoorPa26
namespace Go.Proofs.YtohmdledkhgdaaaGreatDoor
open Go.RowKit
set_option linter.unusedVariables false
set_option maxRecDepth 100000
theorem Xwq {ids:List (List Nat)} (h:Xer ids=0):ids.length≤1000:=by
 rw[Xws] at h
 by_cases h1:20<ids.length
 ·rw[if_pos h1] at h;cases h
 ·omega
theorem Xtk {c:Cn} (ok:c.Ok) (h:Xc3 c.p=0):∀v∈Xa4 c.p,∀x∈v,x<256:=by
 intro v hv x hx
 refine Xfw ok h x ?_
 unfold Xbd
 refine List.mem_append_left _ ?_
 have hl:fWords.length=(Xa4 c.p).length:=rfl
 obtain⟨j,hj,rfl⟩:=List.getElem_of_mem hv
 refine List.mem_flatMap.2 ⟨(fWords[j]'(by omega),(Xa4 c.p)[j]),?_,by simp[hx]⟩
 rw[←List.getElem_zip (h:=by rw[List.length_zip];omega)]
 exact List.getElem_mem _
theorem Yat {c:Cn} (ok:c.Ok) (h:Xc3 c.p=0):Xcl 10 [(⟨#[110,97,109,101,32]⟩:ByteArray)++c.name,(⟨#[97,117,116,104,111,114,32]⟩:ByteArray)++(Xaq (Xbz c.author)),(⟨#[100,97,116,101,32]⟩:ByteArray)++(Xaq (Xd1 c.date)),(⟨#[103,114,111,117,112,115,32]⟩:ByteArray)++(Xcl 44 c.groups),(⟨#[115,117,98,106,101,99,116,32]⟩:ByteArray)++c.subject,(⟨#[114,101,102,101,114,101,110,99,101,115,32]⟩:ByteArray)++(Xcl 32 (Xgy c.refs)),(⟨#[115,117,112,101,114,115,101,100,101,115,32]⟩:ByteArray)++(Xaq (Xhf c.sup)),(⟨#[99,111,110,116,114,111,108,32]⟩:ByteArray)++c.ctl,(⟨#[100,105,115,116,114,105,98,117,116,105,111,110,32]⟩:ByteArray)++c.dist,(⟨#[107,101,121,32]⟩:ByteArray)++(Xaq (Xj4 c.p)),(⟨#[108,101,97,102,32]⟩:ByteArray)++(Xaq (Xd1 c.leaf)),⟨#[]⟩]++(⟨#[10]⟩:ByteArray)++c.body=Xaq (Xbd c.p):=by
 have H:=Xtk ok h
 have eb:c.body=Xaq (bs c.body):=(Xds _).symm
 have lt:∀x∈Xbd c.p,x<256:=Xfw ok h
 have bv:∀v∈Xa4 c.p,bs (Xaq v)=v:=fun v hv=>Xc1 v (H v hv)
 have e1:=bv (Xbz c.author) (by simp[Xa4,Cn.p])
 have e2:=bv (Xd1 c.date) (by simp[Xa4,Cn.p])
 have e3:bs (Xcl 44 c.groups)=Xa0 [44] (c.groups.map bs):=bv (Xa0 [44] (c.groups.map bs)) (by simp[Xa4,Cn.p])
 have e5:bs (Xcl 32 (Xgy c.refs))=Xa0 [32] (c.refs.map Xc2):=by
  unfold Xcl
  rw[Xmu ok.refs]
  exact bv (Xa0 [32] (c.refs.map Xc2)) (by simp[Xa4,Cn.p])
 have e6:=bv (Xhf c.sup) (by simp[Xa4,Cn.p])
 have e9:=bv (Xj4 c.p) (by simp[Xa4])
 have e10:=bv (Xd1 c.leaf) (by simp[Xa4,Cn.p])
 have key:∀l:List ByteArray,Xcl 10 l=Xaq (Xa0 [10] (l.map bs)):=fun _=>rfl
 rw[key]
 conv=>lhs;rw[eb]
 rw[show(⟨#[10]⟩:ByteArray)=Xaq [10] from rfl,←Xcg,←Xcg]
 congr 1
 simp only[List.map_cons,List.map_nil,Xgf,e1,e2,e3,e5,e6,e9,e10]
 rw[show bs (⟨#[110,97,109,101,32]⟩:ByteArray)=[110,97,109,101,32] from rfl]
 rw[show bs (⟨#[97,117,116,104,111,114,32]⟩:ByteArray)=[97,117,116,104,111,114,32] from rfl]
 rw[show bs (⟨#[100,97,116,101,32]⟩:ByteArray)=[100,97,116,101,32] from rfl]
 rw[show bs (⟨#[103,114,111,117,112,115,32]⟩:ByteArray)=[103,114,111,117,112,115,32] from rfl]
 rw[show bs (⟨#[115,117,98,106,101,99,116,32]⟩:ByteArray)=[115,117,98,106,101,99,116,32] from rfl]
 rw[show bs (⟨#[114,101,102,101,114,101,110,99,101,115,32]⟩:ByteArray)=[114,101,102,101,114,101,110,99,101,115,32] from rfl]
 rw[show bs (⟨#[115,117,112,101,114,115,101,100,101,115,32]⟩:ByteArray)=[115,117,112,101,114,115,101,100,101,115,32] from rfl]
 rw[show bs (⟨#[99,111,110,116,114,111,108,32]⟩:ByteArray)=[99,111,110,116,114,111,108,32] from rfl]
 rw[show bs (⟨#[100,105,115,116,114,105,98,117,116,105,111,110,32]⟩:ByteArray)=[100,105,115,116,114,105,98,117,116,105,111,110,32] from rfl]
 rw[show bs (⟨#[107,101,121,32]⟩:ByteArray)=[107,101,121,32] from rfl]
 rw[show bs (⟨#[108,101,97,102,32]⟩:ByteArray)=[108,101,97,102,32] from rfl]
 rw[show bs (⟨#[]⟩:ByteArray)=[] from rfl]
 unfold Xbd fWords Xa4
 simp[Xa0,Cn.p]
theorem Xou (c:Cont):(Xbd c).length=96+(c.name.length+(Xbz c.author).length+(Xd1 c.date).length+(Xa0 [44] c.groups).length+c.subject.length+(Xa0 [32] (c.refs.map Xc2)).length+(Xhf c.sup).length+c.ctl.length+c.dist.length+(Xj4 c).length+(Xd1 c.leaf).length+c.body.length):=by
 unfold Xbd fWords Xa4
 simp
 omega
theorem Xtz (w:World) (s0 s1 s2 s3 s4 s5 s6 s7 s8 s9 s10 s11:ByteArray):(Instr.buildSlice 23 12 #[(0,.string s0),(1,.string s1),(2,.string s2),(3,.string s3),(4,.string s4),(5,.string s5),(6,.string s6),(7,.string s7),(8,.string s8),(9,.string s9),(10,.string s10),(11,.string s11)]).run Tryz.prog w=.ok (.slice (some ⟨w.heap.size,0,none⟩) 12 12) (w.alloc (.cells #[.string s0,.string s1,.string s2,.string s3,.string s4,.string s5,.string s6,.string s7,.string s8,.string s9,.string s10,.string s11] 9)):=by kernel_rfl
theorem Xyk {o:Oper} {a:Act} (w:World) {x0 x1 x2 x3 x4 x5 x6 x7 x8 x9 x10 x11:Operand} {s0 s1 s2 s3 s4 s5 s6 s7 s8 s9 s10 s11:ByteArray} (ho:o.op=.buildSlice 23 12 #[(0,x0),(1,x1),(2,x2),(3,x3),(4,x4),(5,x5),(6,x6),(7,x7),(8,x8),(9,x9),(10,x10),(11,x11)])
    (h0:a.eval x0=.string s0) (h1:a.eval x1=.string s1) (h2:a.eval x2=.string s2) (h3:a.eval x3=.string s3) (h4:a.eval x4=.string s4) (h5:a.eval x5=.string s5) (h6:a.eval x6=.string s6) (h7:a.eval x7=.string s7) (h8:a.eval x8=.string s8) (h9:a.eval x9=.string s9) (h10:a.eval x10=.string s10) (h11:a.eval x11=.string s11):
    (execOp a.eval o).run Tryz.prog w=.ok (.value (.slice (some ⟨w.heap.size,0,none⟩) 12 12)) (w.alloc (.cells #[.string s0,.string s1,.string s2,.string s3,.string s4,.string s5,.string s6,.string s7,.string s8,.string s9,.string s10,.string s11] 9)):=by
 unfold execOp
 rw[ho]
 simp only[List.map_toArray,List.map_cons,List.map_nil,h0,h1,h2,h3,h4,h5,h6,h7,h8,h9,h10,h11]
 rw[Sem.run_bind,Xtz]
 rfl
theorem Yg1 (w:World) (b:Nat) (s0 s1 s2 s3 s4 s5 s6 s7 s8 s9 s10 s11:ByteArray) (h:w.heap[b]?=some (.cells #[.string s0,.string s1,.string s2,.string s3,.string s4,.string s5,.string s6,.string s7,.string s8,.string s9,.string s10,.string s11] 9 (0,0))):SRow w (.slice (some ⟨b,0,none⟩) 12 12) [s0,s1,s2,s3,s4,s5,s6,s7,s8,s9,s10,s11]:=by
 refine⟨_,_,rfl,Nat.le_refl _,fun _=>⟨b,0,rfl,lt_of_block h,fun j hj=>?_⟩⟩
 rw[cell_of_row w b (0+j) _ _ _ h,Nat.zero_add]
 have hj:j<12:=hj
 match j,hj with
 |0,_=>rfl
 |1,_=>rfl
 |2,_=>rfl
 |3,_=>rfl
 |4,_=>rfl
 |5,_=>rfl
 |6,_=>rfl
 |7,_=>rfl
 |8,_=>rfl
 |9,_=>rfl
 |10,_=>rfl
 |11,_=>rfl
set_option maxHeartbeats 4000000 in
theorem Xwo (w:World) (c:Cn) (gv rv:Value) (hin:CnIn w c gv rv) (h0:Xc3 c.p=0) (hF:(Xbd c.p).length≤10000000):
    Calls Tryz.prog 14 #[.agg (c.cells gv rv)] w fun e w'=>e=.returned (.string (Xaq (Xbd c.p)))∧Below w.heap.size w w':=by
 obtain⟨w0,hw0⟩:∃w0,w0=w.alloc (.cells (c.cells gv rv) 28):=⟨_,rfl⟩
 have B0:Below w.heap.size w w0:=by rw[hw0];exact(Below.refl _ _).alloc (Nat.le_refl _) _
 have C0:CB w0 w.heap.size c gv rv 28:=by unfold CB;rw[hw0];exact heap_alloc_last w _
 have vd:=Xf1 h0
 obtain⟨q1,q2,q3⟩:=Xkp h0
 have ok:=hin.ok
 have OK:=Hd ok
 have HIN:=Hd hin
 have FZ:=Xou c.p
 obtain⟨sa,hsa⟩:∃s,s=Xaq (Xbz c.author):=⟨_,rfl⟩
 obtain⟨sd,hsd⟩:∃s,s=Xaq (Xd1 c.date):=⟨_,rfl⟩
 obtain⟨sg,hsg⟩:∃s,s=Xcl 44 c.groups:=⟨_,rfl⟩
 obtain⟨sr,hsr⟩:∃s,s=Xcl 32 (Xgy c.refs):=⟨_,rfl⟩
 obtain⟨so,hso⟩:∃s,s=Xaq (Xhf c.sup):=⟨_,rfl⟩
 obtain⟨sk,hsk⟩:∃s,s=Xaq (Xj4 c.p):=⟨_,rfl⟩
 obtain⟨sl,hsl⟩:∃s,s=Xaq (Xd1 c.leaf):=⟨_,rfl⟩
 have z0:c.name.size≤10000000:=by have:(c.p.name).length=c.name.size:=Xaa _;omega
 have z1:sa.size≤10000000:=by rw[hsa,Xan];have:(Xbz c.p.author).length=(Xbz c.author).length:=rfl;omega
 have z2:sd.size≤10000000:=by rw[hsd,Xan];have:(Xd1 c.p.date).length=(Xd1 c.date).length:=rfl;omega
 have z3:sg.size≤10000000:=by rw[hsg];unfold Xcl;rw[Xan];have:(Xa0 [44] c.p.groups).length=(Xa0 [44] (c.groups.map bs)).length:=rfl;omega
 have z4:c.subject.size≤10000000:=by have:(c.p.subject).length=c.subject.size:=Xaa _;omega
 have z5:sr.size≤10000000:=by rw[hsr];unfold Xcl;rw[Xmu ok.refs,Xan];have:(Xa0 [32] (c.p.refs.map Xc2)).length=(Xa0 [32] (c.refs.map Xc2)).length:=rfl;omega
 have z6:so.size≤10000000:=by rw[hso,Xan];have:(Xhf c.p.sup).length=(Xhf c.sup).length:=rfl;omega
 have z7:c.ctl.size≤10000000:=by have:(c.p.ctl).length=c.ctl.size:=Xaa _;omega
 have z8:c.dist.size≤10000000:=by have:(c.p.dist).length=c.dist.size:=Xaa _;omega
 have z9:sk.size≤10000000:=by rw[hsk,Xan];omega
 have z10:sl.size≤10000000:=by rw[hsl,Xan];have:(Xd1 c.p.leaf).length=(Xd1 c.leaf).length:=rfl;omega
 have zb:c.body.size≤10000000:=by have:(c.p.body).length=c.body.size:=Xaa _;omega
 obtain⟨ra,hra⟩:∃s,s=idA c.author:=⟨_,rfl⟩
 obtain⟨rs,hrs⟩:∃s,s=idA c.sup:=⟨_,rfl⟩
 obtain⟨cs,hcs⟩:∃cs,cs=c.cells gv rv:=⟨_,rfl⟩
 have LDA:Hid (∀wx,CB wx w.heap.size c gv rv 28→(loadVar 22 ⟨w.heap.size,1,none⟩).run Tryz.prog wx=.ok (.agg ra) wx):=Hd (fun wx h=>by rw[hra];exact CB.author16 h OK.out)
 have LDS:Hid (∀wx,CB wx w.heap.size c gv rv 28→(loadVar 26 ⟨w.heap.size,21,none⟩).run Tryz.prog wx=.ok (.agg rs) wx):=Hd (fun wx h=>by rw[hrs];exact CB.sup h OK.out)
 have LDC:Hid (∀wx,CB wx w.heap.size c gv rv 28→(loadVar 28 ⟨w.heap.size,0,none⟩).run Tryz.prog wx=.ok (.agg cs) wx):=Hd (fun wx h=>by rw[hcs];exact CB.allR h OK.out)
 have CA:Hid (∀wx:World,Calls Tryz.prog 32 #[.agg ra] wx fun e w'=>e=.returned (.string sa)∧Below wx.heap.size wx w'):=Hd (fun wx=>by rw[hra,hsa];exact Xp1 wx ok.author)
 have CD:Hid (∀wx:World,Calls Tryz.prog 33 #[.int .i64 c.date] wx fun e w'=>e=.returned (.string sd)∧Below wx.heap.size wx w'):=Hd (fun wx=>by rw[hsd];exact Xgp c.date vd.date.1 (Xg7 ok.date).2 wx)
 have CG:Hid (∀wx:World,Below w.heap.size w wx→Calls Tryz.prog 34 #[gv,.string (⟨#[44]⟩:ByteArray)] wx fun e w'=>e=.returned (.string sg)∧wx=w'):=Hd (fun wx hb=>by
  have:=Xn6 wx gv c.groups 44 (HIN.out.srow.below hb) HIN.out.gl (by rw[←hsg];omega)
  rw[←hsg] at this
  exact this)
 have CO:Hid (∀wx:World,Calls Tryz.prog 35 #[.agg rs] wx fun e w'=>e=.returned (.string so)∧Below wx.heap.size wx w'):=Hd (fun wx=>by rw[hrs,hso];exact Yap wx ok.sup)
 have CK:Hid (∀wx:World,Calls Tryz.prog 36 #[.agg cs] wx fun e w'=>e=.returned (.string sk)∧Below wx.heap.size wx w'):=Hd (fun wx=>by rw[hcs,hsk];exact Yak wx c ok vd.number.1 gv rv)
 have CL:Hid (∀wx:World,Calls Tryz.prog 33 #[.int .i64 c.leaf] wx fun e w'=>e=.returned (.string sl)∧Below wx.heap.size wx w'):=Hd (fun wx=>by rw[hsl];exact Xgp c.leaf vd.leaf.1 (Xg7 ok.leaf).2 wx)
 have RL:=Hd (Xn5 w0 rv c.refs (hin.irow.below B0) hin.rl ok.refs)
 have RPR:Hid (∀(wx:World) v,IRow wx v c.refs→Calls Tryz.prog 30 #[v] wx fun e w'=>e=.returned (.tuple #[.string sr,.int .i64 0])∧Below wx.heap.size wx w'):=Hd (fun wx v h=>by rw[hsr];exact Yeh wx v c.refs h (Xwq q2) ok.refs q2)
 obtain⟨p0,hp0⟩:∃s,s=(⟨#[110,97,109,101,32]⟩:ByteArray)++c.name:=⟨_,rfl⟩
 have y0:¬9223372036854775807<5+c.name.size:=by omega
 have x0:c.name.size≤9223372036854775802:=by omega
 obtain⟨p1,hp1⟩:∃s,s=(⟨#[97,117,116,104,111,114,32]⟩:ByteArray)++sa:=⟨_,rfl⟩
 have y1:¬9223372036854775807<7+sa.size:=by omega
 have x1:sa.size≤9223372036854775800:=by omega
 obtain⟨p2,hp2⟩:∃s,s=(⟨#[100,97,116,101,32]⟩:ByteArray)++sd:=⟨_,rfl⟩
 have y2:¬9223372036854775807<5+sd.size:=by omega
 have x2:sd.size≤9223372036854775802:=by omega
 obtain⟨p3,hp3⟩:∃s,s=(⟨#[103,114,111,117,112,115,32]⟩:ByteArray)++sg:=⟨_,rfl⟩
 have y3:¬9223372036854775807<7+sg.size:=by omega
 have x3:sg.size≤9223372036854775800:=by omega
 obtain⟨p4,hp4⟩:∃s,s=(⟨#[115,117,98,106,101,99,116,32]⟩:ByteArray)++c.subject:=⟨_,rfl⟩
 have y4:¬9223372036854775807<8+c.subject.size:=by omega
 have x4:c.subject.size≤9223372036854775799:=by omega
 obtain⟨p5,hp5⟩:∃s,s=(⟨#[114,101,102,101,114,101,110,99,101,115,32]⟩:ByteArray)++sr:=⟨_,rfl⟩
 have y5:¬9223372036854775807<11+sr.size:=by omega
 have x5:sr.size≤9223372036854775796:=by omega
 obtain⟨p6,hp6⟩:∃s,s=(⟨#[115,117,112,101,114,115,101,100,101,115,32]⟩:ByteArray)++so:=⟨_,rfl⟩
 have y6:¬9223372036854775807<11+so.size:=by omega
 have x6:so.size≤9223372036854775796:=by omega
 obtain⟨p7,hp7⟩:∃s,s=(⟨#[99,111,110,116,114,111,108,32]⟩:ByteArray)++c.ctl:=⟨_,rfl⟩
 have y7:¬9223372036854775807<8+c.ctl.size:=by omega
 have x7:c.ctl.size≤9223372036854775799:=by omega
 obtain⟨p8,hp8⟩:∃s,s=(⟨#[100,105,115,116,114,105,98,117,116,105,111,110,32]⟩:ByteArray)++c.dist:=⟨_,rfl⟩
 have y8:¬9223372036854775807<13+c.dist.size:=by omega
 have x8:c.dist.size≤9223372036854775794:=by omega
 obtain⟨p9,hp9⟩:∃s,s=(⟨#[107,101,121,32]⟩:ByteArray)++sk:=⟨_,rfl⟩
 have y9:¬9223372036854775807<4+sk.size:=by omega
 have x9:sk.size≤9223372036854775803:=by omega
 obtain⟨p10,hp10⟩:∃s,s=(⟨#[108,101,97,102,32]⟩:ByteArray)++sl:=⟨_,rfl⟩
 have y10:¬9223372036854775807<5+sl.size:=by omega
 have x10:sl.size≤9223372036854775802:=by omega
 obtain⟨rr,hrr⟩:∃s,s=Xcl 10 [p0,p1,p2,p3,p4,p5,p6,p7,p8,p9,p10,(⟨#[]⟩:ByteArray)]:=⟨_,rfl⟩
 have RES:Hid (rr++(⟨#[10]⟩:ByteArray)++c.body=Xaq (Xbd c.p)):=Hd (by
  rw[←Yat ok h0,hrr,hp0,hp1,hp2,hp3,hp4,hp5,hp6,hp7,hp8,hp9,hp10,hsa,hsd,hsg,hsr,hso,hsk,hsl])
 have zr:rr.size+1+c.body.size≤10000000:=by
  have:=congrArg ByteArray.size RES.out
  rw[Xan,ByteArray.size_append,ByteArray.size_append] at this
  have e:(⟨#[10]⟩:ByteArray).size=1:=rfl
  omega
 have zr1:rr.size≤9223372036854775806:=by omega
 have zr2:(rr++(⟨#[10]⟩:ByteArray)).size+c.body.size≤9223372036854775807:=by rw[ByteArray.size_append];show rr.size+1+_≤_;omega
 have zr3:rr.size+1+c.body.size≤9223372036854775807:=by omega
 have CT:Hid (∀(wx:World) b,wx.heap[b]?=some (.cells #[.string p0,.string p1,.string p2,.string p3,.string p4,.string p5,.string p6,.string p7,.string p8,.string p9,.string p10,.string (⟨#[]⟩:ByteArray)] 9 (0,0))→Calls Tryz.prog 34 #[.slice (some ⟨b,0,none⟩) 12 12,.string (⟨#[10]⟩:ByteArray)] wx fun e w'=>e=.returned (.string rr)∧wx=w'):=Hd (fun wx b h=>by
  have:=Xn6 wx _ _ 10 (Yg1 wx b _ _ _ _ _ _ _ _ _ _ _ _ h) (show 12≤1000000 by omega) (by rw[←hrr];omega)
  rw[←hrr] at this
  exact this)
 rw[←hcs] at hw0⊢
 have HW:=Hd hw0;have HC0:=Hd C0;have HB0:=Hd B0
 have HP0:=Hd hp0
 have HP1:=Hd hp1
 have HP2:=Hd hp2
 have HP3:=Hd hp3
 have HP4:=Hd hp4
 have HP5:=Hd hp5
 have HP6:=Hd hp6
 have HP7:=Hd hp7
 have HP8:=Hd hp8
 have HP9:=Hd hp9
 have HP10:=Hd hp10
 clear hw0 hcs hra hrs hsa hsd hsg hsr hso hsk hsl hrr C0 B0 ok h0 hF hin vd q1 q2 q3 FZ z0 z1 z2 z3 z4 z5 z6 z7 z8 z9 z10 zb zr hp0 hp1 hp2 hp3 hp4 hp5 hp6 hp7 hp8 hp9 hp10
 have c20:w0.cell? ⟨w.heap.size,20,none⟩=some rv:=HC0.out.at (Xhz OK.out gv rv)
 go_enter Tryz.func14,Tryz.ntmps14
 go_upto_region 1 with fail
 rw[←HW.out]
 clear HW
 go_wp2_with fail
 refine RL.out.mono ?_
 rintro e w1 ⟨v',rfl,hir,hb⟩
 have D1:=Hd hb
 have RP:=Hd (RPR.out w1 v' hir)
 clear hb hir RL c20 RPR
 go_wp2_with fail
 refine RP.out.mono ?_
 rintro e w2 ⟨rfl,hb⟩
 have D2:=Hd (D1.out.trans (hb.mono D1.out.size))
 clear hb RP D1
 go_upto_region 2 with fail
 refine wp_region_held (S:=fun wx=>CB wx w.heap.size c gv rv 28) (by kernel_rfl) ?_
 change wpAnyH _ _ _ _ _ _ _ _ w2.drew
 obtain⟨wd,hwd⟩:∃wd,wd=w2.drew:=⟨_,rfl⟩
 rw[←hwd]
 have E0:Hid (Below w0.heap.size w0 wd):=Hd (by rw[hwd];exact D2.out.trans ((Below.refl _ _).drew.mono D2.out.size))
 clear hwd D2
 have hB:(fun wx:World=>CB wx w.heap.size c gv rv 28) wd:=HC0.out.on E0.out
 refine Xad 0 (.pointer (some ⟨w.heap.size,0,none⟩)) rfl (fun _ _=>by go_simp) hB ?_
 refine Xad 1 (.string c.name) rfl (fun w' hw'=>by have cl:=hw'.at (Xe6 c gv rv);go_simp) hB ?_
 refine Xad 2 (.string p0) rfl (fun _ _=>by go_simp;exact HP0.out.symm) hB ?_
 refine Xad 3 (.pointer (some ⟨w.heap.size,1,none⟩)) rfl (fun _ _=>by go_simp) hB ?_
 refine Xad 4 (.agg ra) rfl (fun w' hw'=>Xaw (ty:=22) (x:=.tmp 16) (ad:=⟨w.heap.size,1,none⟩) rfl (by kernel_rfl) (LDA.out w' hw')) hB ?_
 refine Xad 7 (.pointer (some ⟨w.heap.size,17,none⟩)) rfl (fun _ _=>by go_simp) hB ?_
 refine Xad 8 (.int .i64 c.date) rfl (fun w' hw'=>by have cl:=hw'.at (Xcn OK.out gv rv);go_simp) hB ?_
 refine Xad 11 (.pointer (some ⟨w.heap.size,18,none⟩)) rfl (fun _ _=>by go_simp) hB ?_
 refine Xad 12 (gv) rfl (fun w' hw'=>by have cl:=hw'.at (Xgv OK.out gv rv);go_simp) hB ?_
 refine Xad 15 (.pointer (some ⟨w.heap.size,19,none⟩)) rfl (fun _ _=>by go_simp) hB ?_
 refine Xad 16 (.string c.subject) rfl (fun w' hw'=>by have cl:=hw'.at (Xct OK.out gv rv);go_simp) hB ?_
 refine Xad 17 (.string p4) rfl (fun _ _=>by go_simp;exact HP4.out.symm) hB ?_
 refine Xad 18 (.string sr) rfl (fun _ _=>by go_simp) hB ?_
 refine Xad 19 (.string p5) rfl (fun _ _=>by go_simp;exact HP5.out.symm) hB ?_
 refine Xad 20 (.pointer (some ⟨w.heap.size,21,none⟩)) rfl (fun _ _=>by go_simp) hB ?_
 refine Xad 21 (.agg rs) rfl (fun w' hw'=>Xaw (ty:=26) (x:=.tmp 33) (ad:=⟨w.heap.size,21,none⟩) rfl (by kernel_rfl) (LDS.out w' hw')) hB ?_
 refine Xad 24 (.pointer (some ⟨w.heap.size,53,none⟩)) rfl (fun _ _=>by go_simp) hB ?_
 refine Xad 25 (.string c.ctl) rfl (fun w' hw'=>by have cl:=hw'.at (Xc8 OK.out gv rv);go_simp) hB ?_
 refine Xad 26 (.string p7) rfl (fun _ _=>by go_simp;exact HP7.out.symm) hB ?_
 refine Xad 27 (.pointer (some ⟨w.heap.size,54,none⟩)) rfl (fun _ _=>by go_simp) hB ?_
 refine Xad 28 (.string c.dist) rfl (fun w' hw'=>by have cl:=hw'.at (Xdn OK.out gv rv);go_simp) hB ?_
 refine Xad 29 (.string p8) rfl (fun _ _=>by go_simp;exact HP8.out.symm) hB ?_
 refine Xad 30 (.agg cs) rfl (fun w' hw'=>Xaw (ty:=28) (x:=.tmp 1) (ad:=⟨w.heap.size,0,none⟩) rfl (by kernel_rfl) (LDC.out w' hw')) hB ?_
 refine Xad 33 (.pointer (some ⟨w.heap.size,73,none⟩)) rfl (fun _ _=>by go_simp) hB ?_
 refine Xad 34 (.int .i64 c.leaf) rfl (fun w' hw'=>by have cl:=hw'.at (Xev OK.out gv rv);go_simp) hB ?_
 refine Xav (i:=5) (by kernel_rfl) ?_
 refine Xao (f:=32) (args:=#[.agg ra]) rfl rfl (by kernel_rfl) ?_
 refine(CA.out wd).mono ?_
 rintro e y1 ⟨rfl,hb⟩
 have E1:=Hd (E0.out.trans (hb.mono E0.out.size))
 clear hb
 replace hB:=HC0.out.on E1.out
 refine⟨_,rfl,hB,?_⟩
 refine Xad 6 (.string p1) rfl (fun _ _=>by go_simp;exact HP1.out.symm) hB ?_
 refine Xav (i:=9) (by kernel_rfl) ?_
 refine Xao (f:=33) (args:=#[.int .i64 c.date]) rfl rfl (by kernel_rfl) ?_
 refine(CD.out y1).mono ?_
 rintro e y2 ⟨rfl,hb⟩
 have E2:=Hd (E1.out.trans (hb.mono E1.out.size))
 clear hb
 replace hB:=HC0.out.on E2.out
 refine⟨_,rfl,hB,?_⟩
 refine Xad 10 (.string p2) rfl (fun _ _=>by go_simp;exact HP2.out.symm) hB ?_
 have F2:=Hd (HB0.out.trans (E2.out.mono HB0.out.size))
 refine Xav (i:=13) (by kernel_rfl) ?_
 refine Xao (f:=34) (args:=#[gv,.string (⟨#[44]⟩:ByteArray)]) rfl rfl (by kernel_rfl) ?_
 refine(CG.out y2 F2.out).mono ?_
 rintro e y3 ⟨rfl,rfl⟩
 refine⟨_,rfl,hB,?_⟩
 refine Xad 14 (.string p3) rfl (fun _ _=>by go_simp;exact HP3.out.symm) hB ?_
 refine Xav (i:=22) (by kernel_rfl) ?_
 refine Xao (f:=35) (args:=#[.agg rs]) rfl rfl (by kernel_rfl) ?_
 refine(CO.out _).mono ?_
 rintro e y4 ⟨rfl,hb⟩
 have E4:=Hd (E2.out.trans (hb.mono E2.out.size))
 clear hb
 replace hB:=HC0.out.on E4.out
 refine⟨_,rfl,hB,?_⟩
 refine Xad 23 (.string p6) rfl (fun _ _=>by go_simp;exact HP6.out.symm) hB ?_
 refine Xav (i:=31) (by kernel_rfl) ?_
 refine Xao (f:=36) (args:=#[.agg cs]) rfl rfl (by kernel_rfl) ?_
 refine(CK.out y4).mono ?_
 rintro e y5 ⟨rfl,hb⟩
 have E5:=Hd (E4.out.trans (hb.mono E4.out.size))
 clear hb
 replace hB:=HC0.out.on E5.out
 refine⟨_,rfl,hB,?_⟩
 refine Xad 32 (.string p9) rfl (fun _ _=>by go_simp;exact HP9.out.symm) hB ?_
 refine Xav (i:=35) (by kernel_rfl) ?_
 refine Xao (f:=33) (args:=#[.int .i64 c.leaf]) rfl rfl (by kernel_rfl) ?_
 refine(CL.out y5).mono ?_
 rintro e y6 ⟨rfl,hb⟩
 have E6:=Hd (E5.out.trans (hb.mono E5.out.size))
 clear hb
 replace hB:=HC0.out.on E6.out
 refine⟨_,rfl,hB,?_⟩
 refine Xad 36 (.string p10) rfl (fun _ _=>by go_simp;exact HP10.out.symm) hB ?_
 refine Xav (i:=37) (by kernel_rfl) ?_
 refine Xd9 rfl rfl (Xyk (s0:=p0) (s1:=p1) (s2:=p2) (s3:=p3) (s4:=p4) (s5:=p5) (s6:=p6) (s7:=p7) (s8:=p8) (s9:=p9) (s10:=p10) (s11:=(⟨#[]⟩:ByteArray)) y6 rfl (by kernel_rfl) (by kernel_rfl) (by kernel_rfl) (by kernel_rfl) (by kernel_rfl) (by kernel_rfl) (by kernel_rfl) (by kernel_rfl) (by kernel_rfl) (by kernel_rfl) (by kernel_rfl) rfl) ?_
 obtain⟨y7,hy7⟩:∃x,x=y6.alloc (.cells #[.string p0,.string p1,.string p2,.string p3,.string p4,.string p5,.string p6,.string p7,.string p8,.string p9,.string p10,.string (⟨#[]⟩:ByteArray)] 9):=⟨_,rfl⟩
 rw[←hy7]
 have E7:Hid (Below w0.heap.size w0 y7):=Hd (by rw[hy7];exact E6.out.alloc E6.out.size _)
 have AB:Hid (y7.heap[y6.heap.size]?=some (.cells #[.string p0,.string p1,.string p2,.string p3,.string p4,.string p5,.string p6,.string p7,.string p8,.string p9,.string p10,.string (⟨#[]⟩:ByteArray)] 9 (0,0))):=Hd (by rw[hy7];exact heap_alloc_last y6 _)
 clear hy7
 obtain⟨q,hq⟩:∃q,q=y6.heap.size:=⟨_,rfl⟩
 rw[←hq] at AB⊢
 clear hq
 replace hB:=HC0.out.on E7.out
 refine⟨hB,?_⟩
 refine Xad 38 (.slice (some ⟨q,0,none⟩) 12 12) rfl (fun _ _=>by go_simp) hB ?_
 refine wpAnyH_done (by kernel_rfl) ?_ _
 go_simp
 refine‹∀(a:Act) (w_1:World),_→_› _ _ ?_
 clear hB
 go_upto_region 3 with fail
 refine wp_region_held (S:=fun wx=>CB wx w.heap.size c gv rv 28) (by kernel_rfl) ?_
 change wpAnyH _ _ _ _ _ _ _ _ y7.drew
 obtain⟨wf,hwf⟩:∃wd,wd=y7.drew:=⟨_,rfl⟩
 rw[←hwf]
 have E8:Hid (Below w0.heap.size w0 wf):=Hd (by rw[hwf];exact E7.out.trans ((Below.refl _ _).drew.mono E7.out.size))
 replace AB:Hid (wf.heap[q]?=some (.cells #[.string p0,.string p1,.string p2,.string p3,.string p4,.string p5,.string p6,.string p7,.string p8,.string p9,.string p10,.string (⟨#[]⟩:ByteArray)] 9 (0,0))):=Hd (by rw[hwf];exact AB.out)
 clear hwf
 have hB:(fun wx:World=>CB wx w.heap.size c gv rv 28) wf:=HC0.out.on E8.out
 refine Xad 0 (.slice (some ⟨q,0,none⟩) 12 12) rfl (fun _ _=>by go_simp) hB ?_
 refine Xad 3 (.pointer (some ⟨w.heap.size,74,none⟩)) rfl (fun _ _=>by go_simp) hB ?_
 refine Xad 4 (.string c.body) rfl (fun w' hw'=>by have cl:=hw'.at (Xgu OK.out gv rv);go_simp) hB ?_
 refine Xav (i:=1) (by kernel_rfl) ?_
 refine Xao (f:=34) (args:=#[.slice (some ⟨q,0,none⟩) 12 12,.string (⟨#[10]⟩:ByteArray)]) rfl rfl (by kernel_rfl) ?_
 refine(CT.out wf q AB.out).mono ?_
 rintro e y8 ⟨rfl,rfl⟩
 refine⟨_,rfl,hB,?_⟩
 refine Xad 2 (.string (rr++(⟨#[10]⟩:ByteArray))) rfl (fun _ _=>by go_simp) hB ?_
 refine Xad 5 (.string (rr++(⟨#[10]⟩:ByteArray)++c.body)) rfl (fun _ _=>by go_simp) hB ?_
 refine Xad 6 (.string (rr++(⟨#[10]⟩:ByteArray)++c.body)) rfl (fun _ _=>by go_simp) hB ?_
 refine wpAnyH_done (by kernel_rfl) ?_ _
 go_simp
 refine‹∀(a:Act) (w_1:World),_→_› _ _ ?_
 go_wp2_with fail
 go_ret
 exact⟨by rw[←RES.out];rfl,HB0.out.trans (E8.out.mono HB0.out.size)⟩
def exn (s:ByteArray):Cn:=⟨⟨#[65,110,110]⟩,1::List.replicate 15 0,0,[⟨#[97,46,98]⟩],s,[],zero32,⟨#[]⟩,⟨#[]⟩,0,1,List.replicate 16 0,0,⟨#[]⟩⟩
def exT (x:Nat):ByteArray:=Xaq [116,101,x]
theorem Xuv (x:Nat) (h:x=97∨x=110):(exn (exT x)).p=exC x:=by
 rcases h with rfl|rfl<;>decide+kernel
theorem Xyh (s:ByteArray):(exn s).Ok:=⟨⟨by simp[exn],fun x hx=>by simp[exn] at hx;omega⟩,⟨by simp[exn],fun x hx=>by simp[exn] at hx;omega⟩,⟨by simp[exn,zero32],fun x hx=>by simp[exn,zero32] at hx;omega⟩,fun x hx=>(by cases hx),rfl,rfl,rfl,rfl⟩
theorem Ydo {w:World} {g:Nat} {s:ByteArray} (hs:s.size≤1000) (h:w.heap[g]?=some (.cells #[.string ⟨#[97,46,98]⟩] 9 (0,0))):CnIn w (exn s) (.slice (some ⟨g,0,none⟩) 1 1) (.slice none 0 0):=
 ⟨Xyh s,Nat.le_of_ble_eq_true rfl,by show s.size≤_;omega,Nat.le_of_ble_eq_true rfl,Nat.le_of_ble_eq_true rfl,Nat.le_of_ble_eq_true rfl,Nat.le_of_ble_eq_true rfl,fun x hx=>by
  have hx:x=⟨#[97,46,98]⟩:=by simpa [exn] using hx
  rw[hx];decide,Nat.le_of_ble_eq_true rfl,
  ⟨_,_,rfl,Nat.le_refl _,fun _=>⟨g,0,rfl,lt_of_block h,fun j hj=>by
    have hj:j<1:=hj
    obtain rfl:j=0:=by omega
    rw[cell_of_row w g (0+0) _ _ _ h];rfl⟩⟩,
  ⟨none,0,rfl,Nat.le_refl _,fun hne=>absurd rfl hne⟩⟩
theorem Xym (x:Nat) (h:x=97∨x=110):(Xbd (exC x)).length≤10000000:=by rcases h with rfl|rfl<;>decide+kernel
theorem Yic:Lib.hasPrefix (Xaq (Xbd (exC 97))).data.toList (⟨#[110,97,109,101,32,65,110,110,10,97,117,116,104,111,114,32,48,49,48,48]⟩:ByteArray).data.toList=true:=by decide+kernel
theorem Ybo (w:World) (g:Nat):(Instr.build 37 #[(0,.string ⟨#[65,110,110]⟩),(1,.agg (idA (1::List.replicate 15 0))),(3,.slice (some ⟨g,0,none⟩) 1 1),(4,.string ⟨#[116,101,97]⟩),(10,.agg (pkC 1 (List.replicate 16 0)))]).run Tryz.prog w=.ok (.agg ((exn (exT 97)).cells (.slice (some ⟨g,0,none⟩) 1 1) (.slice none 0 0))) w:=by kernel_rfl
theorem Xxm (w:World):(Instr.build 33 #[(0,.int .u8 1)]).run Tryz.prog w=.ok (.agg (idA (1::List.replicate 15 0))) w:=by kernel_rfl
theorem Yhs (w:World):(Instr.build 35 #[(0,.int .i64 1)]).run Tryz.prog w=.ok (.agg (pkC 1 (List.replicate 16 0))) w:=by kernel_rfl
theorem Yjg (w:World) (s:ByteArray):(Instr.buildSlice 23 1 #[(0,.string s)]).run Tryz.prog w=.ok (.slice (some ⟨w.heap.size,0,none⟩) 1 1) (w.alloc (.cells #[.string s] 9)):=by kernel_rfl
theorem Xqv {o:Oper} {a:Act} (w:World) (ho:o.op=.alloc 37):(execOp a.eval o).run Tryz.prog w=.ok (.value (.pointer (some ⟨w.heap.size,0,none⟩))) (w.alloc (.cells (cn0.cells (.slice none 0 0) (.slice none 0 0)) 37)):=by
 rw[Xko]
 unfold execOp
 rw[ho]
 rfl
theorem Xqu {o:Oper} {a:Act} (w:World) (ho:o.op=.alloc 26):(execOp a.eval o).run Tryz.prog w=.ok (.value (.pointer (some ⟨w.heap.size,0,none⟩))) (w.alloc (.cells (idA zero32) 26)):=by
 unfold execOp
 rw[ho]
 rfl
theorem Xml {P:Program} (w:World) (g o:Nat) (ty t:TypeId) (X Z:List Value) (y:Value) (s:ByteArray) (hg:w.heap[g]?=some (.cells (X++(y::Z)).toArray t (0,0))) (hX:X.length=o)
    (hi:(P.info? ty).map (·.size)=some 1):(storeVar ty ⟨g,o,none⟩ (.string s)).run P w=.ok () (w.setRow g (X++(.string s::Z)).toArray):=by
 have hst:=run_storeCells_at P g o t [.string s] 0 _ w hg (by simp;omega) (by simp[Value.oneCell'])
 have e:(X++(y::Z)).toArray.toList.take (o+0)++[.string s]++(X++(y::Z)).toArray.toList.drop (o+0+1)=X++(.string s::Z):=by
  subst hX
  simp
 rw[show([Value.string s]:List Value).length=1 from rfl,e] at hst
 cases hq:P.info? ty with
 |none=>simp[hq] at hi
 |some i=>
  have hs:i.size=1:=by simp[hq] at hi;omega
  simp[storeVar,sizeOf,typeInfo,hq,Value.cells,hs,hst]
theorem Xyg (s:ByteArray) (gv rv:Value):(exn s).cells gv rv=((([.string ⟨#[65,110,110]⟩]:List Value)++((1::List.replicate 15 0).map U++([.int .i64 0,gv]:List Value)))++(.string s::(rv::(zero32.map U++(([.string ⟨#[]⟩,.string ⟨#[]⟩,.int .i64 0,.int .i64 1]:List Value)++((List.replicate 16 0).map U++([.int .i64 0,.string ⟨#[]⟩]:List Value))))))).toArray:=rfl
set_option maxHeartbeats 4000000 in
theorem Xxo (w:World) (hE:Env w):
    Calls Tryz.prog 7 #[] w fun e w'=>e=.returned (.bool true)∧Below w.heap.size w w':=by
 obtain⟨g,hg⟩:∃g,g=w.heap.size:=⟨_,rfl⟩
 obtain⟨gv,hgv⟩:∃v,v=Value.slice (some ⟨g,0,none⟩) 1 1:=⟨_,rfl⟩
 obtain⟨cA,hcA⟩:∃v,v=(exn (exT 97)).cells gv (.slice none 0 0):=⟨_,rfl⟩
 obtain⟨cB,hcB⟩:∃v,v=(exn (exT 110)).cells gv (.slice none 0 0):=⟨_,rfl⟩
 obtain⟨au,hau⟩:∃v,v=idA (1::List.replicate 15 0):=⟨_,rfl⟩
 obtain⟨pk,hpk⟩:∃v,v=pkC 1 (List.replicate 16 0):=⟨_,rfl⟩
 obtain⟨c0,hc0⟩:∃v,v=cn0.cells (.slice none 0 0) (.slice none 0 0):=⟨_,rfl⟩
 obtain⟨zs,hzs⟩:∃v,v=idA zero32:=⟨_,rfl⟩
 have BA:Hid (∀w,(Instr.build 33 #[(0,.int .u8 1)]).run Tryz.prog w=.ok (.agg au) w):=Hd (fun w=>by rw[hau];exact Xxm w)
 have BP:Hid (∀w,(Instr.build 35 #[(0,.int .i64 1)]).run Tryz.prog w=.ok (.agg pk) w):=Hd (fun w=>by rw[hpk];exact Yhs w)
 have BC:Hid (∀w,(Instr.build 37 #[(0,.string ⟨#[65,110,110]⟩),(1,.agg au),(3,gv),(4,.string ⟨#[116,101,97]⟩),(10,.agg pk)]).run Tryz.prog w=.ok (.agg cA) w):=Hd (fun w=>by rw[hau,hpk,hcA,hgv];exact Ybo w g)
 have AC:Hid (∀(o:Oper) (a:Act) (w:World),o.op=.alloc 37→(execOp a.eval o).run Tryz.prog w=.ok (.value (.pointer (some ⟨w.heap.size,0,none⟩))) (w.alloc (.cells c0 37))):=Hd (fun o a w h=>by rw[hc0];exact Xqv w h)
 have AI:Hid (∀(o:Oper) (a:Act) (w:World),o.op=.alloc 26→(execOp a.eval o).run Tryz.prog w=.ok (.value (.pointer (some ⟨w.heap.size,0,none⟩))) (w.alloc (.cells zs 26))):=Hd (fun o a w h=>by rw[hzs];exact Xqu w h)
 obtain⟨w1,hw1⟩:∃x,x=w.alloc (.cells #[.string ⟨#[97,46,98]⟩] 9):=⟨_,rfl⟩
 obtain⟨w2,hw2⟩:∃x,x=w1.alloc (.cells c0 37):=⟨_,rfl⟩
 obtain⟨p,hp⟩:∃p,p=w1.heap.size:=⟨_,rfl⟩
 have pg:p=g+1:=by rw[hp,hw1,hg];simp
 have G1:w1.heap[g]?=some (.cells #[.string ⟨#[97,46,98]⟩] 9 (0,0)):=by rw[hw1,hg];exact heap_alloc_last w _
 have G2:w2.heap[g]?=some (.cells #[.string ⟨#[97,46,98]⟩] 9 (0,0)):=by rw[hw2];exact Xaf G1
 have P2:w2.heap[p]?=some (.cells c0 37 (0,0)):=by rw[hw2,hp];exact heap_alloc_last w1 _
 have B1:Below g w w1:=by rw[hw1,hg];exact(Below.refl _ _).alloc (Nat.le_refl _) _
 have B2:Below g w w2:=by rw[hw2];exact B1.alloc (by rw[←hp];omega) _
 have szA:cA.size=75:=by rw[hcA];exact Xb1 (Xyh _) _ _
 have szB:cB.size=75:=by rw[hcB];exact Xb1 (Xyh _) _ _
 have sz0:c0.size=75:=by rw[hc0];exact Xb1 Xkn _ _
 have onA:cA.all (·.oneCell')=true:=by rw[hcA,hgv];exact Xc0 _ _ _ rfl rfl
 have ST:=Hd (run_storeVar_row (P:=Tryz.prog) w2 p _ 37 _ cA P2 (by rw[szA];exact Xb3) (by rw[szA,sz0]) onA)
 obtain⟨w3,hw3⟩:∃x,x=w2.setRow p cA:=⟨_,rfl⟩
 have P3:Hid (w3.heap[p]?=some (.cells cA 37 (0,0))):=Hd (by rw[hw3];exact setRow_heap w2 p _ cA _ _ P2)
 have G3:Hid (w3.heap[g]?=some (.cells #[.string ⟨#[97,46,98]⟩] 9 (0,0))):=Hd (by rw[hw3];exact(setRow_other w2 p g cA (by omega)).trans G2)
 have B3:Hid (Below g w w3):=Hd (by rw[hw3];exact below_setRow B2 (by omega) cA)
 have LDA:Hid (∀wx,wx.heap[p]?=some (.cells cA 37 (0,0))→(loadVar 37 ⟨p,0,none⟩).run Tryz.prog wx=.ok (.agg cA) wx):=Hd (fun wx h=>run_loadVar_row wx p _ 37 _ _ _ h Tryz.underlying37 rfl (by rw[szA];exact Xb3))
 have LDB:Hid (∀wx,wx.heap[p]?=some (.cells cB 37 (0,0))→(loadVar 37 ⟨p,0,none⟩).run Tryz.prog wx=.ok (.agg cB) wx):=Hd (fun wx h=>run_loadVar_row wx p _ 37 _ _ _ h Tryz.underlying37 rfl (by rw[szB];exact Xb3))
 have INA:∀wx,wx.heap[g]?=some (.cells #[.string ⟨#[97,46,98]⟩] 9 (0,0))→CnIn wx (exn (exT 97)) gv (.slice none 0 0):=fun wx h=>by rw[hgv];exact Ydo (by decide) h
 have INB:∀wx,wx.heap[g]?=some (.cells #[.string ⟨#[97,46,98]⟩] 9 (0,0))→CnIn wx (exn (exT 110)) gv (.slice none 0 0):=fun wx h=>by rw[hgv];exact Ydo (by decide) h
 have hE2:∀wx,Below g w wx→Env wx:=fun wx hb=>by rw[hg] at hb;exact hE.on hb
 obtain⟨t,ht⟩:∃t,t=Xaq (Xbd (exC 97)):=⟨_,rfl⟩
 obtain⟨iA,hiA⟩:∃t,t=idA (idF (exC 97)):=⟨_,rfl⟩
 obtain⟨iB,hiB⟩:∃t,t=idA (idF (exC 110)):=⟨_,rfl⟩
 have CF:Hid (∀wx,Below g w wx→wx.heap[g]?=some (.cells #[.string ⟨#[97,46,98]⟩] 9 (0,0))→Calls Tryz.prog 19 #[.agg cA] wx fun e w'=>e=.returned (.tuple #[.string t,.int .i64 0])∧Below wx.heap.size wx w'):=Hd (fun wx hb h=>by
  rw[hcA]
  refine(Xiy wx _ _ _ (INA wx h) (fun _=>by rw[Xuv 97 (.inl rfl)];exact Xym 97 (.inl rfl)) (hE2 wx hb)).mono ?_
  rintro e w' ⟨rfl,hb'⟩
  rw[Xuv 97 (.inl rfl),Xyl 97 (.inl rfl),ht]
  exact⟨rfl,hb'⟩)
 have CIA:Hid (∀wx,Below g w wx→wx.heap[g]?=some (.cells #[.string ⟨#[97,46,98]⟩] 9 (0,0))→Calls Tryz.prog 11 #[.agg cA] wx fun e w'=>e=.returned (.tuple #[.agg iA,.int .i64 0])∧Below wx.heap.size wx w'):=Hd (fun wx hb h=>by
  rw[hcA]
  refine(Ydi wx _ _ _ (INA wx h) (fun _=>by rw[Xuv 97 (.inl rfl)];exact Xym 97 (.inl rfl)) (hE2 wx hb)).mono ?_
  rintro e w' ⟨rfl,hb'⟩
  have e1:idV (exC 97)=idF (exC 97):=by unfold idV;rw[if_pos (Xyl 97 (.inl rfl))]
  rw[Xuv 97 (.inl rfl),Xyl 97 (.inl rfl),e1,hiA]
  exact⟨rfl,hb'⟩)
 have CIB:Hid (∀wx,Below g w wx→wx.heap[g]?=some (.cells #[.string ⟨#[97,46,98]⟩] 9 (0,0))→Calls Tryz.prog 11 #[.agg cB] wx fun e w'=>e=.returned (.tuple #[.agg iB,.int .i64 0])∧Below wx.heap.size wx w'):=Hd (fun wx hb h=>by
  rw[hcB]
  refine(Ydi wx _ _ _ (INB wx h) (fun _=>by rw[Xuv 110 (.inr rfl)];exact Xym 110 (.inr rfl)) (hE2 wx hb)).mono ?_
  rintro e w' ⟨rfl,hb'⟩
  have e1:idV (exC 110)=idF (exC 110):=by unfold idV;rw[if_pos (Xyl 110 (.inr rfl))]
  rw[Xuv 110 (.inr rfl),Xyl 110 (.inr rfl),e1,hiB]
  exact⟨rfl,hb'⟩)
 have NEQ:Hid (∀wx,(Op.equal 26 (.agg iA) (.agg iB)).run Tryz.prog wx=.ok false wx):=Hd (fun wx=>by
  have e:=Xuw wx (l:=idF (exC 97)) (m:=idF (exC 110)) ⟨Xci _,Yds _⟩ ⟨Xci _,Yds _⟩
  rw[hiA,hiB,e,decide_eq_false Yjv])
 have siA:iA.size=32:=by rw[hiA,Xag];exact Xci _
 have siB:iB.size=32:=by rw[hiB,Xag];exact Xci _
 have siz:zs.size=32:=by rw[hzs,Xag];rfl
 have oA:iA.all (·.oneCell')=true:=by rw[hiA];exact Xdu _
 have oB:iB.all (·.oneCell')=true:=by rw[hiB];exact Xdu _
 have SI:Hid (∀(wx:World) (i:Array Value),i.size=32→i.all (·.oneCell')=true→(storeVar 26 ⟨wx.heap.size,0,none⟩ (.agg i)).run Tryz.prog (wx.alloc (.cells zs 26))=.ok () ((wx.alloc (.cells zs 26)).setRow wx.heap.size i)∧((wx.alloc (.cells zs 26)).setRow wx.heap.size i).heap[wx.heap.size]?=some (.cells i 26 (0,0))∧Below wx.heap.size wx ((wx.alloc (.cells zs 26)).setRow wx.heap.size i)):=Hd (fun wx i h1 h2=>
  ⟨run_storeVar_row _ wx.heap.size _ 26 _ _ (heap_alloc_last wx _) (by rw[h1];exact Xbf) (by rw[h1,siz]) h2,setRow_heap _ _ _ _ _ _ (heap_alloc_last wx _),below_setRow ((Below.refl _ _).alloc (Nat.le_refl _) _) (Nat.le_refl _) _⟩)
 have LI:Hid (∀(wx:World) b (i:Array Value),i.size=32→wx.heap[b]?=some (.cells i 26 (0,0))→(loadVar 26 ⟨b,0,none⟩).run Tryz.prog wx=.ok (.agg i) wx):=Hd (fun wx b i h1 h=>run_loadVar_row wx b _ 26 _ _ _ h Tryz.underlying26 rfl (by rw[h1];exact Xbf))
 have SS:Hid (∀wx,wx.heap[p]?=some (.cells cA 37 (0,0))→(storeVar 9 ⟨p,19,none⟩ (.string ⟨#[116,101,110]⟩)).run Tryz.prog wx=.ok () (wx.setRow p cB)):=Hd (fun wx h=>by
  rw[hcA,Xyg] at h
  rw[hcB,Xyg]
  exact Xml wx p 19 9 _ _ _ _ _ h rfl (by kernel_rfl))
 have HP:Hid (∀wx:World,Calls Tryz.prog 26 #[.string t,.string ⟨#[110,97,109,101,32,65,110,110,10,97,117,116,104,111,114,32,48,49,48,48]⟩] wx fun e w'=>e=.returned (.bool true)∧w'=wx):=Hd (fun wx=>by
  have:=Xch t ⟨#[110,97,109,101,32,65,110,110,10,97,117,116,104,111,114,32,48,49,48,48]⟩ wx
  rw[ht,Yic] at this
  rw[ht]
  exact this)
 have HSA:=Hd siA;have HSB:=Hd siB;have HOA:=Hd oA;have HOB:=Hd oB
 have PG:=Hd pg
 have GS:Hid (∀wx,Below g w wx→g≤wx.heap.size):=Hd (fun wx h=>by rw[hg];exact h.size)
 rw[←hw3] at ST
 have HW1:=Hd hw1;have HW2:=Hd hw2;have HGV:=Hd hgv;have HG:=Hd hg;have HPP:=Hd hp
 rw[←hg]
 clear hg hp hw1 hw2 hw3 hgv hcA hcB hau hpk hc0 hzs ht hiA hiB szA szB sz0 onA siA siB siz oA oB G1 G2 P2 B1 B2 INA INB hE2 hE pg
 go_enter Tryz.func7,Tryz.ntmps7
 go_upto_region 1 with fail
 refine wp_region_list ?_
 simp only[]
 refine Xdi 33 rfl _ rfl ⟨_,_,by kernel_rfl,BA.out w,?_⟩
 refine Xaz rfl (Xm3 (v:=.string ⟨#[97,46,98]⟩) w rfl rfl (Yjg w _)) ?_
 rw[←HW1.out,←HG.out,←HGV.out]
 refine Xdi 35 rfl _ rfl ⟨_,_,by kernel_rfl,BP.out w1,?_⟩
 refine Xdi 37 rfl _ rfl ⟨_,_,by kernel_rfl,BC.out w1,?_⟩
 refine Xaz rfl (AC.out _ _ w1 rfl) ?_
 rw[←HW2.out,←HPP.out]
 refine Xab 37 rfl _ _ rfl ⟨_,_,_,rfl,rfl,ST.out,?_⟩
 clear ST BA BP BC AC
 go_upto_region 2 with fail
 refine wp_region_list ?_
 simp only[]
 refine Xac 37 rfl _ rfl ⟨_,_,rfl,LDA.out _ P3.out,?_⟩
 go_wp2_with fail
 refine(CF.out w3 B3.out G3.out).mono ?_
 rintro e w4 ⟨rfl,hb⟩
 have P4:=Hd ((hb.block _ (lt_of_block P3.out)).trans P3.out)
 have G4:=Hd ((hb.block _ (lt_of_block G3.out)).trans G3.out)
 have B4:=Hd (B3.out.trans (hb.mono (GS.out _ B3.out)))
 clear hb B3 P3 G3 CF
 go_upto_region 3 with fail
 refine wp_region_list ?_
 simp only[]
 refine Xac 37 rfl _ rfl ⟨_,_,rfl,LDA.out _ P4.out,?_⟩
 go_wp2_with fail
 refine(CIA.out w4 B4.out G4.out).mono ?_
 rintro e w5 ⟨rfl,hb⟩
 have P5:=Hd ((hb.block _ (lt_of_block P4.out)).trans P4.out)
 have G5:=Hd ((hb.block _ (lt_of_block G4.out)).trans G4.out)
 have B5:=Hd (B4.out.trans (hb.mono (GS.out _ B4.out)))
 clear hb B4 P4 G4 CIA LDA
 obtain⟨w6,hw6⟩:∃x,x=(w5.alloc (.cells zs 26)).setRow w5.heap.size iA:=⟨_,rfl⟩
 have S5:=SI.out w5 iA HSA.out HOA.out
 rw[←hw6] at S5
 have ST5:=Hd S5.1
 have SH5:=Hd S5.2
 clear hw6 S5
 go_upto_region 4 with(first
  |((with_reducible refine Xaz rfl (AI.out _ _ _ rfl) ?_))
  |((with_reducible refine Xab 26 rfl _ _ rfl ?_);refine⟨_,_,_,rfl,rfl,ST5.out,?_⟩))
 obtain⟨q,hq⟩:∃q,q=w5.heap.size:=⟨_,rfl⟩
 rw[←hq]
 have lp:=lt_of_block P5.out
 have lg:=lt_of_block G5.out
 have Q6:Hid (w6.heap[q]?=some (.cells iA 26 (0,0))):=Hd (by rw[hq];exact SH5.out.1)
 have P6:=Hd ((SH5.out.2.block _ lp).trans P5.out)
 have G6:=Hd ((SH5.out.2.block _ lg).trans G5.out)
 have B6:=Hd (B5.out.trans (SH5.out.2.mono (GS.out _ B5.out)))
 have QP:Hid (p<q∧g<q):=Hd ⟨by omega,by omega⟩
 clear SH5 ST5 hq lp lg P5 G5 B5
 obtain⟨w7,hw7⟩:∃x,x=w6.setRow p cB:=⟨_,rfl⟩
 have S6:=SS.out w6 P6.out
 rw[←hw7] at S6
 have ST6:=Hd S6
 have HW7:=Hd hw7
 clear hw7 S6
 go_upto_region 5 with((with_reducible refine Xab 9 rfl _ _ rfl ?_);refine⟨_,_,_,rfl,rfl,ST6.out,?_⟩)
 have P7:Hid (w7.heap[p]?=some (.cells cB 37 (0,0))):=Hd (by rw[HW7.out];exact setRow_heap w6 p _ cB _ _ P6.out)
 have G7:Hid (w7.heap[g]?=some (.cells #[.string ⟨#[97,46,98]⟩] 9 (0,0))):=Hd (by rw[HW7.out];exact(setRow_other w6 p g cB (by have:=PG.out;omega)).trans G6.out)
 have Q7:Hid (w7.heap[q]?=some (.cells iA 26 (0,0))):=Hd (by rw[HW7.out];exact(setRow_other w6 p q cB (by have:=QP.out;omega)).trans Q6.out)
 have B7:Hid (Below g w w7):=Hd (by rw[HW7.out];exact below_setRow B6.out (by have:=PG.out;omega) cB)
 clear HW7 ST6 SS P6 G6 Q6 B6
 refine wp_region_list ?_
 simp only[]
 refine Xac 37 rfl _ rfl ⟨_,_,rfl,LDB.out _ P7.out,?_⟩
 go_wp2_with fail
 refine(CIB.out w7 B7.out G7.out).mono ?_
 rintro e w8 ⟨rfl,hb⟩
 have Q8:=Hd ((hb.block _ (lt_of_block Q7.out)).trans Q7.out)
 have B8:=Hd (B7.out.trans (hb.mono (GS.out _ B7.out)))
 clear hb B7 P7 G7 Q7 CIB LDB
 obtain⟨w9,hw9⟩:∃x,x=(w8.alloc (.cells zs 26)).setRow w8.heap.size iB:=⟨_,rfl⟩
 have S8:=SI.out w8 iB HSB.out HOB.out
 rw[←hw9] at S8
 have ST8:=Hd S8.1
 have SH8:=Hd S8.2
 clear hw9 S8
 go_upto_region 6 with(first
  |((with_reducible refine Xaz rfl (AI.out _ _ _ rfl) ?_))
  |((with_reducible refine Xab 26 rfl _ _ rfl ?_);refine⟨_,_,_,rfl,rfl,ST8.out,?_⟩))
 obtain⟨r,hr⟩:∃q,q=w8.heap.size:=⟨_,rfl⟩
 rw[←hr]
 have Q9:=Hd ((SH8.out.2.block _ (lt_of_block Q8.out)).trans Q8.out)
 have R9:w9.heap[r]?=some (.cells iB 26 (0,0)):=by rw[hr];exact SH8.out.1
 have B9:=Hd (B8.out.trans (SH8.out.2.mono (GS.out _ B8.out)))
 have LIA:=Hd (LI.out w9 q iA HSA.out Q9.out)
 have LIB:=Hd (LI.out w9 r iB HSB.out R9)
 clear SH8 ST8 hr Q8 B8 R9 Q9 SI LI AI
 go_wp2_with fail
 refine(HP.out w9).mono ?_
 rintro e w10 ⟨rfl,rfl⟩
 go_wp2_with (first
  |((with_reducible refine Xah 26 _ rfl (by kernel_rfl) ?_);first|(refine⟨_,_,rfl,LIA.out,?_⟩)|(refine⟨_,_,rfl,LIB.out,?_⟩))
  |((with_reducible refine Xaj 26 _ _ rfl (by kernel_rfl) Xbw ?_);refine⟨_,_,_,rfl,rfl,NEQ.out _,?_⟩))
 go_ret
 exact⟨rfl,B9.out⟩
end Go.Proofs.YtohmdledkhgdaaaGreatDoor
