/- canonical.Form (printed by gen_cform.py). -/
import Derived.Test.YtohmdledkhgdaaaGreatDoorPa19
namespace Go.Proofs.YtohmdledkhgdaaaGreatDoor
open Go.RowKit
set_option linter.unusedVariables false
set_option maxRecDepth 100000
theorem Xkp {c:Cont} (h:Xc3 c=0):Xbp c.groups=0∧Xer c.refs=0∧Xau c.height=true:=by
 unfold Xc3 at h
 obtain⟨h1,h⟩:=Xbb h
 obtain⟨h2,h⟩:=Xbb h
 obtain⟨h3,h⟩:=Xbb h
 obtain⟨h4,h⟩:=Xbb h
 obtain⟨h5,h⟩:=Xbb h
 obtain⟨h6,h⟩:=Xbb h
 obtain⟨h7,h⟩:=Xbb h
 obtain⟨h8,h⟩:=Xbb h
 obtain⟨h9,h⟩:=Xbb h
 have h9:=Xd8 (by decide) h9
 exact⟨h3,h5,by simpa using h9⟩
theorem Yby (c:Cont):fe (fe (fe (fe 0 (Xc3 c)) (Xbp c.groups)) (Xer c.refs)) (eIf (!Xau c.height) 2)=Xc3 c:=by
 by_cases h:Xc3 c=0
 ·obtain⟨h1,h2,h3⟩:=Xkp h
  rw[h,h1,h2,h3];rfl
 ·unfold fe
  simp[h]
def Xez (ws vs:List (List Nat)) (j:Nat):List Nat:=((ws.zip vs).take j).flatMap fun p=>p.1++32::p.2++[10]
theorem Xqe {ws vs:List (List Nat)} {j:Nat} (h:j<ws.length) (h2:j<vs.length):Xez ws vs (j+1)=Xez ws vs j++(ws.getD j []++32::vs.getD j []++[10]):=by
 have hz:j<(ws.zip vs).length:=by rw[List.length_zip];omega
 unfold Xez
 rw[List.take_succ_eq_append_getElem hz,List.flatMap_append,List.getElem_zip]
 simp[List.getD,h,h2]
theorem Xxc (ws vs:List (List Nat)) (j:Nat):(Xez ws vs j).length≤((ws.zip vs).flatMap fun p=>p.1++32::p.2++[10]).length:=by
 unfold Xez
 conv=>rhs;rw[←List.take_append_drop j (ws.zip vs),List.flatMap_append]
 rw[List.length_append];omega
def vA (vs:List ByteArray):Array Value:=(vs.map Value.string).toArray
theorem Ygy (vs:List ByteArray):(vA vs).all (·.oneCell')=true:=by
 rw[Array.all_eq_true']
 intro x hx
 unfold vA at hx
 rw[List.mem_toArray,List.mem_map] at hx
 obtain⟨y,_,rfl⟩:=hx
 rfl
theorem Xfn:(Tryz.prog.info? 101).map (·.size)=some 11:=by kernel_rfl
theorem Yfg {vs:List ByteArray} (hl:vs.length=11) (j:Nat) (hj:j<11) (s:ByteArray) (hs:vs[j]?=some s) (w:World):(Instr.index 101 (.agg (vA vs)) (.int .i64 (j:Int))).run Tryz.prog w=.ok (.string s) w:=by
 have hi:(0:Int)≤(j:Int)∧(j:Int)<11:=by omega
 have e:(vA vs)[j]?=some (.string s):=by
  unfold vA
  rw[List.getElem?_toArray,List.getElem?_map,hs];rfl
 simp[Instr.index,run_underlying Tryz.underlying101,asIntOf,hi,go_sem]
 rw[if_pos hj,e]
 rfl
theorem Xy7 (w:World) (s0 s1 s2 s3 s4 s5 s6 s7 s8 s9 s10:ByteArray):(Instr.build 101 #[(0,.string s0),(1,.string s1),(2,.string s2),(3,.string s3),(4,.string s4),(5,.string s5),(6,.string s6),(7,.string s7),(8,.string s8),(9,.string s9),(10,.string s10)]).run Tryz.prog w=.ok (.agg (vA [s0,s1,s2,s3,s4,s5,s6,s7,s8,s9,s10])) w:=by kernel_rfl
theorem Xav {P:Program} {md:Region.Mode} {ops:Array Oper} {Q:Exit→Act→World→Prop} {S:World→Prop} {i:Nat} {fuel:Nat} {listed:Array Bool} {a:Act} {w:World} (hr:Region.ready md ops listed=[i])
    (h:wpOp P ops Q i (fun a' w'=>S w'∧wpAnyH P md ops Q S fuel (listed.setIfInBounds i true) a' w') a w):wpAnyH P md ops Q S (fuel+1) listed a w:=
 wpAnyH_all hr (by simp) (fun j hj=>by
  obtain rfl:j=i:=by simpa using hj
  exact h)
theorem Xf0 {P:Program} {md:Region.Mode} {ops:Array Oper} {Q:Exit→Act→World→Prop} {S:World→Prop} {i k:Nat} {fuel:Nat} {listed:Array Bool} {a:Act} {w:World} (hr:Region.ready md ops listed=[i,k])
    (h:wpOp P ops Q i (fun a' w'=>S w'∧wpAnyH P md ops Q S fuel (listed.setIfInBounds i true) a' w') a w) (h2:wpOp P ops Q k (fun a' w'=>S w'∧wpAnyH P md ops Q S fuel (listed.setIfInBounds k true) a' w') a w):wpAnyH P md ops Q S (fuel+1) listed a w:=
 wpAnyH_all hr (by simp) (fun j hj=>by
  simp only[List.mem_cons,List.not_mem_nil,or_false] at hj
  rcases hj with rfl|rfl
  ·exact h
  ·exact h2)
theorem Xyr {n:Int} {w:World} {e:Ending} {w':World} (h:Xzo n w e w'):e=.returned (.string (Xaq (Xd1 n)))∧Below w.heap.size w w':=by
 obtain⟨t,rfl,ht,_,hb⟩:=h
 exact⟨by rw[←ht,Xds],hb⟩
theorem Xd9 {P:Program} {ops:Array Oper} {Q:Exit→Act→World→Prop} {i:Nat} {o:Oper} {K:Act→World→Prop} {a:Act} {w w':World} {v:Value} (ho:ops[i]?=some o) (hg:o.guard=none)
    (he:(execOp a.eval o).run P w=.ok (.value v) w') (h:K (a.put o.dst v) w'):wpOp P ops Q i K a w:=Xbt ho hg (Xb0 he h)
theorem Xdw {o:Oper} {a:Act} (w:World) (ho:o.op=.alloc 101):(execOp a.eval o).run Tryz.prog w=.ok (.value (.pointer (some ⟨w.heap.size,0,none⟩))) (w.alloc (.cells #[.string ⟨#[]⟩,.string ⟨#[]⟩,.string ⟨#[]⟩,.string ⟨#[]⟩,.string ⟨#[]⟩,.string ⟨#[]⟩,.string ⟨#[]⟩,.string ⟨#[]⟩,.string ⟨#[]⟩,.string ⟨#[]⟩,.string ⟨#[]⟩] 101)):=by
 unfold execOp
 rw[ho]
 rfl
theorem ChI.row {w:World} {c:Cn} {gv rv:Value} {n:Nat} {wx:World} (h:ChI w c gv rv n wx) (hw:CnIn w c gv rv) (hE:Env w) {p':Nat} (hp:w.heap.size+1<p') (cs:Array Value):ChI w c gv rv n (wx.setRow p' cs):=by
 have b:=below_setRow h.fr (show w.heap.size≤p' by omega) cs
 exact⟨(setRow_other wx p' _ cs (by omega)).trans h.ck,b,(setRow_other wx p' _ cs (by omega)).trans h.cb,hE.on b,hw.on b⟩
def V0 (c:Cn) (da d1 tg tr op tk d2:ByteArray):List ByteArray:=[c.name,da,d1,tg,c.subject,tr,op,c.ctl,c.dist,tk,d2]
theorem Xuu:∀j,j<11→(fWords.getD j []).length≤20:=by decide
theorem Xyf:∀j,j<11→∀x∈fWords.getD j [],x<256:=by decide
theorem Yi8 (c:Cn) (da d1 tg tr op tk d2:ByteArray) (ok:c.Ok) (vd:c.p.Vd) (h1:da=Xaq (Xbz c.author)) (h2:d1=Xaq (Xd1 c.date)) (h3:op=Xaq (Xhf c.sup)) (h4:d2=Xaq (Xd1 c.leaf)) (h5:bs tg=Xa0 [44] (c.groups.map bs)) (h6:bs tr=Xa0 [32] (c.refs.map Xc2)) (h7:bs tk=Xj4 c.p):(V0 c da d1 tg tr op tk d2).map bs=Xa4 c.p:=by
 have e1:bs da=Xbz c.author:=by rw[h1];exact Xc1 _ (fun x hx=>by have:=Xg8 ok.author.lt x hx;omega)
 have e2:bs d1=Xd1 c.date:=by rw[h2];exact Xc1 _ (fun x hx=>by have:=Xdl (n:=c.date) vd.date.1 x hx;omega)
 have e3:bs op=Xhf c.sup:=by
  rw[h3]
  refine Xc1 _ (fun x hx=>?_)
  unfold Xhf at hx
  split at hx
  ·cases hx
  ·have:=Xfp ok.sup.lt x hx;omega
 have e4:bs d2=Xd1 c.leaf:=by rw[h4];exact Xc1 _ (fun x hx=>by have:=Xdl (n:=c.leaf) vd.leaf.1 x hx;omega)
 unfold V0 Xa4
 simp only[List.map_cons,List.map_nil,e1,e2,e3,e4,h5,h6,h7]
 rfl
theorem Yd4 {V:List ByteArray} {c:Cont} (h:V.map bs=Xa4 c) (j:Nat) (hj:j<11):∃s,V[j]?=some s∧bs s=(Xa4 c).getD j []:=by
 have hl:(Xa4 c).length=11:=rfl
 have hV:V.length=11:=by rw[←List.length_map bs,h,hl]
 refine⟨V[j],List.getElem?_eq_getElem (by omega),?_⟩
 rw[←h,List.getD_eq_getElem?_getD,List.getElem?_map,List.getElem?_eq_getElem (by omega)]
 rfl
theorem Yfj {V:List ByteArray} {c:Cn} (h:V.map bs=Xa4 c.p):∀x∈Xbd c.p,x<256:=by
 intro x hx
 unfold Xbd at hx
 rw[List.mem_append,List.mem_cons] at hx
 rcases hx with hx|rfl|hx
 ·obtain⟨p,hp,hx⟩:=List.mem_flatMap.1 hx
  rw[List.mem_append,List.mem_append,List.mem_cons,List.mem_singleton] at hx
  rcases hx with(hx|rfl|hx)|rfl
  ·have h1:=(List.of_mem_zip hp).1
   have:∀l∈fWords,∀x∈l,x<256:=by decide
   exact this _ h1 x hx
  ·decide
  ·have h2:=(List.of_mem_zip hp).2
   rw[←h] at h2
   obtain⟨s,_,hs⟩:=List.mem_map.1 h2
   rw[←hs] at hx
   exact Xga s x hx
  ·decide
 ·decide
 ·exact Xga c.body x hx
def Ycz (c:Cont) (w:World) (e:Ending) (w':World):Prop:=
 e=.returned (.tuple #[.string (Xaq (if Xc3 c=0 then Xbd c else[])),.int .i64 ((Xc3 c:Nat):Int)])∧Below w.heap.size w w'
set_option maxHeartbeats 1000000 in
theorem Xiy (w:World) (c:Cn) (gv rv:Value) (hin:CnIn w c gv rv) (hF:Xc3 c.p=0→(Xbd c.p).length≤10000000) (hE:Env w):
    Calls Tryz.prog 19 #[.agg (c.cells gv rv)] w (Ycz c.p w):=by
 have HIN:=Hd hin;have HE:=Hd hE;have OK:=Hd hin.ok;have HF:=Hd hF
 have ERR:=Hd (Yby c.p)
 have FX:Hid (∀e w',Ycz c.p w e w'↔e=.returned (.tuple #[.string (Xaq (if Xc3 c.p=0 then Xbd c.p else[])),.int .i64 ((Xc3 c.p:Nat):Int)])∧Below w.heap.size w w'):=Hd (fun _ _=>Iff.rfl)
 obtain⟨p0,hp0⟩:∃p,p=Xc3 c.p:=⟨_,rfl⟩
 obtain⟨p1,hp1⟩:∃p,p=Xbp (c.groups.map bs):=⟨_,rfl⟩
 obtain⟨p2,hp2⟩:∃p,p=Xer c.refs:=⟨_,rfl⟩
 obtain⟨p3,hp3⟩:∃p,p=eIf (!Xau c.height) 2:=⟨_,rfl⟩
 have HP0:=Hd hp0;have HP1:=Hd hp1;have HP2:=Hd hp2;have HP3:=Hd hp3
 have ERR2:Hid (fe (fe (fe (fe 0 p0) p1) p2) p3=p0):=Hd (by have:=ERR.out;rw[hp0,hp1,hp2,hp3];exact this)
 obtain⟨w0,hw0⟩:∃w0,w0=(w.alloc (.cells (c.cells gv rv) 37)).alloc (.cells #[.int .i64 0] 96):=⟨_,rfl⟩
 have I0:Hid (ChI w c gv rv 0 w0):=Hd (by
  have b1:Below w.heap.size w (w.alloc (.cells (c.cells gv rv) 37)):=(Below.refl _ _).alloc (Nat.le_refl _) _
  have b2:Below (w.alloc (.cells (c.cells gv rv) 37)).heap.size (w.alloc (.cells (c.cells gv rv) 37)) w0:=by rw[hw0];exact(Below.refl _ _).alloc (Nat.le_refl _) _
  have b:=b1.trans (b2.mono (by simp))
  refine⟨?_,b,(CB.new w c gv rv _).on b2,hE.on b,hin.on b⟩
  have:=heap_alloc_new (w.alloc (.cells (c.cells gv rv) 37)) (.cells #[.int .i64 0] 96)
  rw[World.size_alloc,←hw0] at this
  exact this)
 have hw9:9≤w.heap.size+1:=by have:=hE.size;omega
 have LD:=Hd (I0.out.cb.all OK.out)
 have CK:=Hd (Xy5 w0 c gv rv I0.out.inp I0.out.env)
 rw[←hp0] at CK
 obtain⟨cs,hcs⟩:∃cs,cs=c.cells gv rv:=⟨_,rfl⟩
 have HCS:=Hd hcs
 rw[←hcs] at hw0 LD CK⊢
 have HW:=Hd hw0
 clear hcs hw0 hin hE hF hp0 hp1 hp2 hp3 ERR
 go_enter Tryz.func19,Tryz.ntmps19
 go_upto_region 2 with fail
 rw[←HW.out]
 clear HW
 refine wp_region_list ?_
 simp only[]
 refine Xac 37 rfl _ rfl ⟨_,_,rfl,LD.out,?_⟩
 go_wp2_with fail
 refine CK.out.mono ?_
 rintro e w1 ⟨rfl,hb⟩
 have I1:=Hd (I0.out.on hb)
 clear hb I0 LD CK
 have K:=Hd (Xdk w1 (w.heap.size+1) _ I1.out.ck p0)
 go_wp2_with fail
 refine K.out.mono ?_
 rintro e w2 ⟨⟨v2,rfl⟩,h,f⟩
 have I2:=Hd (I1.out.step HIN.out HE.out h f)
 clear h f I1 K
 have cg:w2.cell? ⟨w.heap.size,18,none⟩=some gv:=I2.out.cb.at (Xgv OK.out gv rv)
 have FL:=Hd (Xov w2 gv c.groups I2.out.inp.srow HIN.out.gl HIN.out.gz I2.out.env)
 rw[←HP1.out] at FL
 go_wp2_with fail
 refine FL.out.mono ?_
 rintro e w3 ⟨tg,rfl,htg,htg2,hb⟩
 have TG:=Hd htg
 have I3:=Hd (I2.out.on hb)
 clear hb I2 FL cg htg htg2
 have K:=Hd (Xdk w3 (w.heap.size+1) _ I3.out.ck p1)
 go_wp2_with fail
 refine K.out.mono ?_
 rintro e w4 ⟨⟨v4,rfl⟩,h,f⟩
 have I4:=Hd (I3.out.step HIN.out HE.out h f)
 clear h f I3 K
 have cr:w4.cell? ⟨w.heap.size,20,none⟩=some rv:=I4.out.cb.at (Xhz OK.out gv rv)
 have RP:=Hd (Xtv w4 rv c.refs I4.out.inp.irow HIN.out.rl OK.out.refs)
 rw[←HP2.out] at RP
 go_wp2_with fail
 refine RP.out.mono ?_
 rintro e w5 ⟨tr,rfl,htr,htr2,hb⟩
 have TR:=Hd htr
 have I5:=Hd (I4.out.on hb)
 clear hb I4 RP cr htr htr2
 have K:=Hd (Xdk w5 (w.heap.size+1) _ I5.out.ck p2)
 go_wp2_with fail
 refine K.out.mono ?_
 rintro e w6 ⟨⟨v6,rfl⟩,h,f⟩
 have I6:=Hd (I5.out.step HIN.out HE.out h f)
 clear h f I5 K
 have LD:=Hd (I6.out.cb.all OK.out)
 have KT:=Hd (Xxn w6 c OK.out gv rv I6.out.env)
 rw[←HCS.out] at LD KT
 go_upto_region 7 with fail
 refine wp_region_list ?_
 simp only[]
 refine Xac 37 rfl _ rfl ⟨_,_,rfl,LD.out,?_⟩
 go_wp2_with fail
 refine KT.out.mono ?_
 rintro e w7 ⟨tk,rfl,htk,htk2,hb⟩
 rw[←HP3.out]
 have TK:=Hd htk
 have I7:=Hd (I6.out.on hb)
 clear hb I6 KT LD htk htk2
 have K:=Hd (Xdk w7 (w.heap.size+1) _ I7.out.ck p3)
 go_wp2_with fail
 refine K.out.mono ?_
 rintro e w8 ⟨⟨v8,rfl⟩,h,f⟩
 have h8:=I7.out.step HIN.out HE.out h f
 rw[ERR2.out] at h8
 have I8:=Hd h8
 clear h f I7 K h8
 have ce:=I8.out.ck.cell
 by_cases h0:p0=0
 ·subst h0
  have hz:((((0:Nat):Int)) !=0)=false:=rfl
  obtain⟨da,hda⟩:∃s,s=Xaq (Xbz c.author):=⟨_,rfl⟩
  obtain⟨d1,hd1⟩:∃s,s=Xaq (Xd1 c.date):=⟨_,rfl⟩
  obtain⟨op,hop⟩:∃s,s=Xaq (Xhf c.sup):=⟨_,rfl⟩
  obtain⟨d2,hd2⟩:∃s,s=Xaq (Xd1 c.leaf):=⟨_,rfl⟩
  obtain⟨au,hau⟩:∃s,s=idA c.author:=⟨_,rfl⟩
  obtain⟨sp,hsp⟩:∃s,s=idA c.sup:=⟨_,rfl⟩
  have LDA:Hid (∀wx,CB wx w.heap.size c gv rv 37→(loadVar 33 ⟨w.heap.size,1,none⟩).run Tryz.prog wx=.ok (.agg au) wx):=Hd (fun wx h=>by rw[hau];exact CB.author h OK.out)
  have LDS:Hid (∀wx,CB wx w.heap.size c gv rv 37→(loadVar 26 ⟨w.heap.size,21,none⟩).run Tryz.prog wx=.ok (.agg sp) wx):=Hd (fun wx h=>by rw[hsp];exact CB.sup h OK.out)
  have C4:Hid (∀wx,Env wx→Calls Tryz.prog 55 #[.agg au] wx fun e w'=>e=.returned (.string da)∧Below wx.heap.size wx w'):=Hd (fun wx _=>by rw[hau,hda];exact Xvh wx OK.out.author)
  have C7:Hid (∀wx,Env wx→Calls Tryz.prog 56 #[.int .i64 c.date] wx fun e w'=>e=.returned (.string d1)∧Below wx.heap.size wx w'):=Hd (fun wx he=>by rw[hd1];exact(Xkl c.date (Xg7 OK.out.date).1 (Xg7 OK.out.date).2 wx he).mono (fun _ _ h=>Xyr h))
  have C14:Hid (∀wx,Env wx→Calls Tryz.prog 57 #[.agg sp] wx fun e w'=>e=.returned (.string op)∧Below wx.heap.size wx w'):=Hd (fun wx _=>by rw[hsp,hop];exact Xw6 wx OK.out.sup)
  have C22:Hid (∀wx,Env wx→Calls Tryz.prog 56 #[.int .i64 c.leaf] wx fun e w'=>e=.returned (.string d2)∧Below wx.heap.size wx w'):=Hd (fun wx he=>by rw[hd2];exact(Xkl c.leaf (Xg7 OK.out.leaf).1 (Xg7 OK.out.leaf).2 wx he).mono (fun _ _ h=>Xyr h))
  obtain⟨vs,hvs⟩:∃vs,vs=vA [c.name,da,d1,tg,c.subject,tr,op,c.ctl,c.dist,tk,d2]:=⟨_,rfl⟩
  have VSZ:Hid (vs.size=11):=Hd (by rw[hvs];rfl)
  have VON:Hid (vs.all (·.oneCell')=true):=Hd (by rw[hvs];exact Ygy _)
  have BLD:Hid (∀w,(Instr.build 101 #[(0,.string c.name),(1,.string da),(2,.string d1),(3,.string tg),(4,.string c.subject),(5,.string tr),(6,.string op),(7,.string c.ctl),(8,.string c.dist),(9,.string tk),(10,.string d2)]).run Tryz.prog w=.ok (.agg vs) w):=Hd (fun w=>by rw[hvs];exact Xy7 w _ _ _ _ _ _ _ _ _ _ _)
  have HVS:=Hd hvs;have HDA:=Hd hda;have HD1:=Hd hd1;have HOP:=Hd hop;have HD2:=Hd hd2
  clear hvs hda hd1 hop hd2 hau hsp
  go_upto_region 11 with fail
  go_cut [9] (fun p wx=>∃p',p=.pointer (some ⟨p',0,none⟩)∧Hid (wx.heap[p']?=some (.cells vs 101 (0,0)))∧Hid (ChI w c gv rv 0 wx))
  case first=>
   have ID:=Hd (I8.out.on (Dr.below ⟨1,rfl⟩:Below w8.heap.size w8 w8.drew))
   refine wp_region_held (S:=fun wx=>CB wx w.heap.size c gv rv 37) (by kernel_rfl) ?_
   change wpAnyH _ _ _ _ _ _ _ _ w8.drew
   obtain⟨wd,hwd⟩:∃wd,wd=w8.drew:=⟨_,rfl⟩
   rw[←hwd] at ID⊢
   clear hwd I8 ce
   have hB:(fun wx:World=>CB wx w.heap.size c gv rv 37) wd:=ID.out.cb
   refine Xad 0 (.pointer (some ⟨w.heap.size,0,none⟩)) rfl (fun _ _=>by go_simp) hB ?_
   refine Xad 1 (.string c.name) rfl (fun w' hw'=>by have cl:=hw'.at (Xe6 c gv rv);go_simp) hB ?_
   refine Xad 2 (.pointer (some ⟨w.heap.size,1,none⟩)) rfl (fun _ _=>by go_simp) hB ?_
   refine Xad 3 (.agg au) rfl (fun w' hw'=>Xaw (ty:=33) (x:=.tmp 46) (ad:=⟨w.heap.size,1,none⟩) rfl (by kernel_rfl) (LDA.out w' hw')) hB ?_
   refine Xad 5 (.pointer (some ⟨w.heap.size,17,none⟩)) rfl (fun _ _=>by go_simp) hB ?_
   refine Xad 6 (.int .i64 c.date) rfl (fun w' hw'=>by have cl:=hw'.at (Xcn OK.out gv rv);go_simp) hB ?_
   refine Xad 8 (.string tg) rfl (fun _ _=>by go_simp) hB ?_
   refine Xad 9 (.pointer (some ⟨w.heap.size,19,none⟩)) rfl (fun _ _=>by go_simp) hB ?_
   refine Xad 10 (.string c.subject) rfl (fun w' hw'=>by have cl:=hw'.at (Xct OK.out gv rv);go_simp) hB ?_
   refine Xad 11 (.string tr) rfl (fun _ _=>by go_simp) hB ?_
   refine Xad 12 (.pointer (some ⟨w.heap.size,21,none⟩)) rfl (fun _ _=>by go_simp) hB ?_
   refine Xad 13 (.agg sp) rfl (fun w' hw'=>Xaw (ty:=26) (x:=.tmp 56) (ad:=⟨w.heap.size,21,none⟩) rfl (by kernel_rfl) (LDS.out w' hw')) hB ?_
   refine Xad 15 (.pointer (some ⟨w.heap.size,53,none⟩)) rfl (fun _ _=>by go_simp) hB ?_
   refine Xad 16 (.string c.ctl) rfl (fun w' hw'=>by have cl:=hw'.at (Xc8 OK.out gv rv);go_simp) hB ?_
   refine Xad 17 (.pointer (some ⟨w.heap.size,54,none⟩)) rfl (fun _ _=>by go_simp) hB ?_
   refine Xad 18 (.string c.dist) rfl (fun w' hw'=>by have cl:=hw'.at (Xdn OK.out gv rv);go_simp) hB ?_
   refine Xad 19 (.string tk) rfl (fun _ _=>by go_simp) hB ?_
   refine Xad 20 (.pointer (some ⟨w.heap.size,73,none⟩)) rfl (fun _ _=>by go_simp) hB ?_
   refine Xad 21 (.int .i64 c.leaf) rfl (fun w' hw'=>by have cl:=hw'.at (Xev OK.out gv rv);go_simp) hB ?_
   refine Xf0 (i:=4) (k:=24) (by kernel_rfl) ?_ ?_
   ·skip
    refine Xao (f:=55) (args:=#[.agg au]) rfl rfl (by kernel_rfl) ?_
    refine(C4.out wd ID.out.env).mono ?_
    rintro e y1 ⟨rfl,hb⟩
    have J0:=Hd (ID.out.on hb)
    clear hb
    refine⟨_,rfl,J0.out.cb,?_⟩
    refine Xf0 (i:=7) (k:=24) (by kernel_rfl) ?_ ?_
    ·skip
     refine Xao (f:=56) (args:=#[.int .i64 c.date]) rfl rfl (by kernel_rfl) ?_
     refine(C7.out y1 J0.out.env).mono ?_
     rintro e y2 ⟨rfl,hb⟩
     have J1:=Hd (J0.out.on hb)
     clear hb
     refine⟨_,rfl,J1.out.cb,?_⟩
     refine Xf0 (i:=14) (k:=24) (by kernel_rfl) ?_ ?_
     ·skip
      refine Xao (f:=57) (args:=#[.agg sp]) rfl rfl (by kernel_rfl) ?_
      refine(C14.out y2 J1.out.env).mono ?_
      rintro e y3 ⟨rfl,hb⟩
      have J2:=Hd (J1.out.on hb)
      clear hb
      refine⟨_,rfl,J2.out.cb,?_⟩
      refine Xf0 (i:=22) (k:=24) (by kernel_rfl) ?_ ?_
      ·skip
       refine Xao (f:=56) (args:=#[.int .i64 c.leaf]) rfl rfl (by kernel_rfl) ?_
       refine(C22.out y3 J2.out.env).mono ?_
       rintro e y4 ⟨rfl,hb⟩
       have J3:=Hd (J2.out.on hb)
       clear hb
       refine⟨_,rfl,J3.out.cb,?_⟩
       have hB:=J3.out.cb
       refine Xad 23 (.agg vs) rfl (fun _ _=>by go_simp;exact HVS.out.symm) hB ?_
       refine Xav (i:=24) (by kernel_rfl) ?_
       refine Xd9 rfl rfl (Xdw y4 rfl) ?_
       have HP':=J3.out.ck.lt
       obtain⟨y5,hy5⟩:∃x,x=y4.alloc (.cells #[.string ⟨#[]⟩,.string ⟨#[]⟩,.string ⟨#[]⟩,.string ⟨#[]⟩,.string ⟨#[]⟩,.string ⟨#[]⟩,.string ⟨#[]⟩,.string ⟨#[]⟩,.string ⟨#[]⟩,.string ⟨#[]⟩,.string ⟨#[]⟩] 101):=⟨_,rfl⟩
       rw[←hy5]
       have A0:Hid (ChI w c gv rv 0 y5):=Hd (by rw[hy5];exact J3.out.on ((Below.refl _ _).alloc (Nat.le_refl _) _))
       have AB:Hid (y5.heap[y4.heap.size]?=some (.cells #[.string ⟨#[]⟩,.string ⟨#[]⟩,.string ⟨#[]⟩,.string ⟨#[]⟩,.string ⟨#[]⟩,.string ⟨#[]⟩,.string ⟨#[]⟩,.string ⟨#[]⟩,.string ⟨#[]⟩,.string ⟨#[]⟩,.string ⟨#[]⟩] 101 (0,0))):=Hd (by rw[hy5];exact heap_alloc_last y4 _)
       clear hy5
       refine⟨A0.out.cb,?_⟩
       refine Xav (i:=25) (by kernel_rfl) ?_
       have IF:=Hd (A0.out.row HIN.out HE.out (p':=y4.heap.size) (by omega) vs)
       have W2:=Hd (setRow_heap y5 y4.heap.size _ vs _ _ AB.out)
       have STR:=Hd (run_storeVar_row (P:=Tryz.prog) y5 y4.heap.size _ 101 _ vs AB.out (by rw[VSZ.out];exact Xfn) (by rw[VSZ.out];rfl) VON.out)
       refine Xdb rfl rfl (Xax (t:=101) (x:=.tmp 9) (y:=.tmp 67) (ad:=⟨y4.heap.size,0,none⟩) (u:=.agg vs) rfl (by kernel_rfl) (by kernel_rfl) STR.out) ?_
       refine⟨IF.out.cb,?_⟩
       refine wpAnyH_done (by kernel_rfl) ?_ _
       go_simp
       clear hB
       refine‹∀(a:Act) (w_1:World),_→_› _ _ ?_
       go_meet
       exact⟨_,rfl,W2,IF⟩
      ·skip
       refine Xd9 rfl rfl (Xdw y3 rfl) ?_
       have HP':=J2.out.ck.lt
       obtain⟨y6,hy6⟩:∃x,x=y3.alloc (.cells #[.string ⟨#[]⟩,.string ⟨#[]⟩,.string ⟨#[]⟩,.string ⟨#[]⟩,.string ⟨#[]⟩,.string ⟨#[]⟩,.string ⟨#[]⟩,.string ⟨#[]⟩,.string ⟨#[]⟩,.string ⟨#[]⟩,.string ⟨#[]⟩] 101):=⟨_,rfl⟩
       rw[←hy6]
       have A0:Hid (ChI w c gv rv 0 y6):=Hd (by rw[hy6];exact J2.out.on ((Below.refl _ _).alloc (Nat.le_refl _) _))
       have AB:Hid (y6.heap[y3.heap.size]?=some (.cells #[.string ⟨#[]⟩,.string ⟨#[]⟩,.string ⟨#[]⟩,.string ⟨#[]⟩,.string ⟨#[]⟩,.string ⟨#[]⟩,.string ⟨#[]⟩,.string ⟨#[]⟩,.string ⟨#[]⟩,.string ⟨#[]⟩,.string ⟨#[]⟩] 101 (0,0))):=Hd (by rw[hy6];exact heap_alloc_last y3 _)
       clear hy6
       refine⟨A0.out.cb,?_⟩
       refine Xav (i:=22) (by kernel_rfl) ?_
       refine Xao (f:=56) (args:=#[.int .i64 c.leaf]) rfl rfl (by kernel_rfl) ?_
       refine(C22.out y6 A0.out.env).mono ?_
       rintro e y7 ⟨rfl,hb⟩
       have A4:=Hd (A0.out.on hb)
       replace AB:=Hd ((hb.block _ (lt_of_block AB.out)).trans AB.out)
       clear hb
       refine⟨_,rfl,A4.out.cb,?_⟩
       have hB:=A4.out.cb
       refine Xad 23 (.agg vs) rfl (fun _ _=>by go_simp;exact HVS.out.symm) hB ?_
       refine Xav (i:=25) (by kernel_rfl) ?_
       have IF:=Hd (A4.out.row HIN.out HE.out (p':=y3.heap.size) (by omega) vs)
       have W2:=Hd (setRow_heap y7 y3.heap.size _ vs _ _ AB.out)
       have STR:=Hd (run_storeVar_row (P:=Tryz.prog) y7 y3.heap.size _ 101 _ vs AB.out (by rw[VSZ.out];exact Xfn) (by rw[VSZ.out];rfl) VON.out)
       refine Xdb rfl rfl (Xax (t:=101) (x:=.tmp 9) (y:=.tmp 67) (ad:=⟨y3.heap.size,0,none⟩) (u:=.agg vs) rfl (by kernel_rfl) (by kernel_rfl) STR.out) ?_
       refine⟨IF.out.cb,?_⟩
       refine wpAnyH_done (by kernel_rfl) ?_ _
       go_simp
       clear hB
       refine‹∀(a:Act) (w_1:World),_→_› _ _ ?_
       go_meet
       exact⟨_,rfl,W2,IF⟩
     ·skip
      refine Xd9 rfl rfl (Xdw y2 rfl) ?_
      have HP':=J1.out.ck.lt
      obtain⟨y8,hy8⟩:∃x,x=y2.alloc (.cells #[.string ⟨#[]⟩,.string ⟨#[]⟩,.string ⟨#[]⟩,.string ⟨#[]⟩,.string ⟨#[]⟩,.string ⟨#[]⟩,.string ⟨#[]⟩,.string ⟨#[]⟩,.string ⟨#[]⟩,.string ⟨#[]⟩,.string ⟨#[]⟩] 101):=⟨_,rfl⟩
      rw[←hy8]
      have A0:Hid (ChI w c gv rv 0 y8):=Hd (by rw[hy8];exact J1.out.on ((Below.refl _ _).alloc (Nat.le_refl _) _))
      have AB:Hid (y8.heap[y2.heap.size]?=some (.cells #[.string ⟨#[]⟩,.string ⟨#[]⟩,.string ⟨#[]⟩,.string ⟨#[]⟩,.string ⟨#[]⟩,.string ⟨#[]⟩,.string ⟨#[]⟩,.string ⟨#[]⟩,.string ⟨#[]⟩,.string ⟨#[]⟩,.string ⟨#[]⟩] 101 (0,0))):=Hd (by rw[hy8];exact heap_alloc_last y2 _)
      clear hy8
      refine⟨A0.out.cb,?_⟩
      refine Xav (i:=14) (by kernel_rfl) ?_
      refine Xao (f:=57) (args:=#[.agg sp]) rfl rfl (by kernel_rfl) ?_
      refine(C14.out y8 A0.out.env).mono ?_
      rintro e y9 ⟨rfl,hb⟩
      have A3:=Hd (A0.out.on hb)
      replace AB:=Hd ((hb.block _ (lt_of_block AB.out)).trans AB.out)
      clear hb
      refine⟨_,rfl,A3.out.cb,?_⟩
      refine Xav (i:=22) (by kernel_rfl) ?_
      refine Xao (f:=56) (args:=#[.int .i64 c.leaf]) rfl rfl (by kernel_rfl) ?_
      refine(C22.out y9 A3.out.env).mono ?_
      rintro e y10 ⟨rfl,hb⟩
      have A4:=Hd (A3.out.on hb)
      replace AB:=Hd ((hb.block _ (lt_of_block AB.out)).trans AB.out)
      clear hb
      refine⟨_,rfl,A4.out.cb,?_⟩
      have hB:=A4.out.cb
      refine Xad 23 (.agg vs) rfl (fun _ _=>by go_simp;exact HVS.out.symm) hB ?_
      refine Xav (i:=25) (by kernel_rfl) ?_
      have IF:=Hd (A4.out.row HIN.out HE.out (p':=y2.heap.size) (by omega) vs)
      have W2:=Hd (setRow_heap y10 y2.heap.size _ vs _ _ AB.out)
      have STR:=Hd (run_storeVar_row (P:=Tryz.prog) y10 y2.heap.size _ 101 _ vs AB.out (by rw[VSZ.out];exact Xfn) (by rw[VSZ.out];rfl) VON.out)
      refine Xdb rfl rfl (Xax (t:=101) (x:=.tmp 9) (y:=.tmp 67) (ad:=⟨y2.heap.size,0,none⟩) (u:=.agg vs) rfl (by kernel_rfl) (by kernel_rfl) STR.out) ?_
      refine⟨IF.out.cb,?_⟩
      refine wpAnyH_done (by kernel_rfl) ?_ _
      go_simp
      clear hB
      refine‹∀(a:Act) (w_1:World),_→_› _ _ ?_
      go_meet
      exact⟨_,rfl,W2,IF⟩
    ·skip
     refine Xd9 rfl rfl (Xdw y1 rfl) ?_
     have HP':=J0.out.ck.lt
     obtain⟨y11,hy11⟩:∃x,x=y1.alloc (.cells #[.string ⟨#[]⟩,.string ⟨#[]⟩,.string ⟨#[]⟩,.string ⟨#[]⟩,.string ⟨#[]⟩,.string ⟨#[]⟩,.string ⟨#[]⟩,.string ⟨#[]⟩,.string ⟨#[]⟩,.string ⟨#[]⟩,.string ⟨#[]⟩] 101):=⟨_,rfl⟩
     rw[←hy11]
     have A0:Hid (ChI w c gv rv 0 y11):=Hd (by rw[hy11];exact J0.out.on ((Below.refl _ _).alloc (Nat.le_refl _) _))
     have AB:Hid (y11.heap[y1.heap.size]?=some (.cells #[.string ⟨#[]⟩,.string ⟨#[]⟩,.string ⟨#[]⟩,.string ⟨#[]⟩,.string ⟨#[]⟩,.string ⟨#[]⟩,.string ⟨#[]⟩,.string ⟨#[]⟩,.string ⟨#[]⟩,.string ⟨#[]⟩,.string ⟨#[]⟩] 101 (0,0))):=Hd (by rw[hy11];exact heap_alloc_last y1 _)
     clear hy11
     refine⟨A0.out.cb,?_⟩
     refine Xav (i:=7) (by kernel_rfl) ?_
     refine Xao (f:=56) (args:=#[.int .i64 c.date]) rfl rfl (by kernel_rfl) ?_
     refine(C7.out y11 A0.out.env).mono ?_
     rintro e y12 ⟨rfl,hb⟩
     have A2:=Hd (A0.out.on hb)
     replace AB:=Hd ((hb.block _ (lt_of_block AB.out)).trans AB.out)
     clear hb
     refine⟨_,rfl,A2.out.cb,?_⟩
     refine Xav (i:=14) (by kernel_rfl) ?_
     refine Xao (f:=57) (args:=#[.agg sp]) rfl rfl (by kernel_rfl) ?_
     refine(C14.out y12 A2.out.env).mono ?_
     rintro e y13 ⟨rfl,hb⟩
     have A3:=Hd (A2.out.on hb)
     replace AB:=Hd ((hb.block _ (lt_of_block AB.out)).trans AB.out)
     clear hb
     refine⟨_,rfl,A3.out.cb,?_⟩
     refine Xav (i:=22) (by kernel_rfl) ?_
     refine Xao (f:=56) (args:=#[.int .i64 c.leaf]) rfl rfl (by kernel_rfl) ?_
     refine(C22.out y13 A3.out.env).mono ?_
     rintro e y14 ⟨rfl,hb⟩
     have A4:=Hd (A3.out.on hb)
     replace AB:=Hd ((hb.block _ (lt_of_block AB.out)).trans AB.out)
     clear hb
     refine⟨_,rfl,A4.out.cb,?_⟩
     have hB:=A4.out.cb
     refine Xad 23 (.agg vs) rfl (fun _ _=>by go_simp;exact HVS.out.symm) hB ?_
     refine Xav (i:=25) (by kernel_rfl) ?_
     have IF:=Hd (A4.out.row HIN.out HE.out (p':=y1.heap.size) (by omega) vs)
     have W2:=Hd (setRow_heap y14 y1.heap.size _ vs _ _ AB.out)
     have STR:=Hd (run_storeVar_row (P:=Tryz.prog) y14 y1.heap.size _ 101 _ vs AB.out (by rw[VSZ.out];exact Xfn) (by rw[VSZ.out];rfl) VON.out)
     refine Xdb rfl rfl (Xax (t:=101) (x:=.tmp 9) (y:=.tmp 67) (ad:=⟨y1.heap.size,0,none⟩) (u:=.agg vs) rfl (by kernel_rfl) (by kernel_rfl) STR.out) ?_
     refine⟨IF.out.cb,?_⟩
     refine wpAnyH_done (by kernel_rfl) ?_ _
     go_simp
     clear hB
     refine‹∀(a:Act) (w_1:World),_→_› _ _ ?_
     go_meet
     exact⟨_,rfl,W2,IF⟩
   ·skip
    refine Xd9 rfl rfl (Xdw wd rfl) ?_
    have HP':=ID.out.ck.lt
    obtain⟨y15,hy15⟩:∃x,x=wd.alloc (.cells #[.string ⟨#[]⟩,.string ⟨#[]⟩,.string ⟨#[]⟩,.string ⟨#[]⟩,.string ⟨#[]⟩,.string ⟨#[]⟩,.string ⟨#[]⟩,.string ⟨#[]⟩,.string ⟨#[]⟩,.string ⟨#[]⟩,.string ⟨#[]⟩] 101):=⟨_,rfl⟩
    rw[←hy15]
    have A0:Hid (ChI w c gv rv 0 y15):=Hd (by rw[hy15];exact ID.out.on ((Below.refl _ _).alloc (Nat.le_refl _) _))
    have AB:Hid (y15.heap[wd.heap.size]?=some (.cells #[.string ⟨#[]⟩,.string ⟨#[]⟩,.string ⟨#[]⟩,.string ⟨#[]⟩,.string ⟨#[]⟩,.string ⟨#[]⟩,.string ⟨#[]⟩,.string ⟨#[]⟩,.string ⟨#[]⟩,.string ⟨#[]⟩,.string ⟨#[]⟩] 101 (0,0))):=Hd (by rw[hy15];exact heap_alloc_last wd _)
    clear hy15
    refine⟨A0.out.cb,?_⟩
    refine Xav (i:=4) (by kernel_rfl) ?_
    refine Xao (f:=55) (args:=#[.agg au]) rfl rfl (by kernel_rfl) ?_
    refine(C4.out y15 A0.out.env).mono ?_
    rintro e y16 ⟨rfl,hb⟩
    have A1:=Hd (A0.out.on hb)
    replace AB:=Hd ((hb.block _ (lt_of_block AB.out)).trans AB.out)
    clear hb
    refine⟨_,rfl,A1.out.cb,?_⟩
    refine Xav (i:=7) (by kernel_rfl) ?_
    refine Xao (f:=56) (args:=#[.int .i64 c.date]) rfl rfl (by kernel_rfl) ?_
    refine(C7.out y16 A1.out.env).mono ?_
    rintro e y17 ⟨rfl,hb⟩
    have A2:=Hd (A1.out.on hb)
    replace AB:=Hd ((hb.block _ (lt_of_block AB.out)).trans AB.out)
    clear hb
    refine⟨_,rfl,A2.out.cb,?_⟩
    refine Xav (i:=14) (by kernel_rfl) ?_
    refine Xao (f:=57) (args:=#[.agg sp]) rfl rfl (by kernel_rfl) ?_
    refine(C14.out y17 A2.out.env).mono ?_
    rintro e y18 ⟨rfl,hb⟩
    have A3:=Hd (A2.out.on hb)
    replace AB:=Hd ((hb.block _ (lt_of_block AB.out)).trans AB.out)
    clear hb
    refine⟨_,rfl,A3.out.cb,?_⟩
    refine Xav (i:=22) (by kernel_rfl) ?_
    refine Xao (f:=56) (args:=#[.int .i64 c.leaf]) rfl rfl (by kernel_rfl) ?_
    refine(C22.out y18 A3.out.env).mono ?_
    rintro e y19 ⟨rfl,hb⟩
    have A4:=Hd (A3.out.on hb)
    replace AB:=Hd ((hb.block _ (lt_of_block AB.out)).trans AB.out)
    clear hb
    refine⟨_,rfl,A4.out.cb,?_⟩
    have hB:=A4.out.cb
    refine Xad 23 (.agg vs) rfl (fun _ _=>by go_simp;exact HVS.out.symm) hB ?_
    refine Xav (i:=25) (by kernel_rfl) ?_
    have IF:=Hd (A4.out.row HIN.out HE.out (p':=wd.heap.size) (by omega) vs)
    have W2:=Hd (setRow_heap y19 wd.heap.size _ vs _ _ AB.out)
    have STR:=Hd (run_storeVar_row (P:=Tryz.prog) y19 wd.heap.size _ 101 _ vs AB.out (by rw[VSZ.out];exact Xfn) (by rw[VSZ.out];rfl) VON.out)
    refine Xdb rfl rfl (Xax (t:=101) (x:=.tmp 9) (y:=.tmp 67) (ad:=⟨wd.heap.size,0,none⟩) (u:=.agg vs) rfl (by kernel_rfl) (by kernel_rfl) STR.out) ?_
    refine⟨IF.out.cb,?_⟩
    refine wpAnyH_done (by kernel_rfl) ?_ _
    go_simp
    clear hB
    refine‹∀(a:Act) (w_1:World),_→_› _ _ ?_
    go_meet
    exact⟨_,rfl,W2,IF⟩
  case rest=>
  obtain⟨w9,hw9'⟩:∃x,x=wc:=⟨_,rfl⟩
  rw[←hw9'] at hcut⊢
  obtain⟨p',rfl,AB,I9⟩:=hcut
  clear hw9'
  have VD:Hid ((V0 c da d1 tg tr op tk d2).map bs=Xa4 c.p):=Hd (by
   have h0:=HP0.out.symm
   obtain⟨q1,q2,q3⟩:=Xkp h0
   have vd:=Xf1 h0
   exact Yi8 c da d1 tg tr op tk d2 OK.out vd HDA.out HD1.out HOP.out HD2.out (TG.out (by rw[HP1.out];exact q1)) (TR.out (by rw[HP2.out];exact q2)) (TK.out q3))
  have FL:Hid ((Xbd c.p).length≤10000000):=Hd (HF.out HP0.out.symm)
  obtain⟨w10,hw10⟩:∃x,x=w9.alloc (.cells #[.pointer none,.slice none 0 0] 80):=⟨_,rfl⟩
  have B10:Hid (BD w w9.heap.size (Xez fWords (Xa4 c.p) 0) w10):=Hd (by rw[hw10];exact BD.new I9.out.fr)
  have C10:Hid (CB w10 w.heap.size c gv rv 37):=Hd (I9.out.cb.on (by rw[hw10];exact(Below.refl _ _).alloc (Nat.le_refl _) _))
  have A10:Hid (w10.heap[p']?=some (.cells vs 101 (0,0))):=Hd (by rw[hw10];exact Xaf AB.out)
  have LD11:=Hd (run_loadVar_row (P:=Tryz.prog) w10 p' _ 101 vs _ _ A10.out Tryz.underlying101 rfl (by rw[VSZ.out];exact Xfn))
  have CLT:Hid (w.heap.size<w9.heap.size):=Hd I9.out.cb.lt
  have HW10:=Hd hw10
  clear hw10 AB I9 BLD C4 C7 C14 C22 LDA LDS A10 HDA HD1 HOP HD2 TG TR TK HP1 HP2 HP3 ERR2 hz
  go_upto_region 13 with fail
  rw[←HW10.out]
  clear HW10
  obtain⟨q,hq⟩:∃q,q=w9.heap.size:=⟨_,rfl⟩
  rw[←hq] at B10 CLT⊢
  clear hq
  refine wp_region_list ?_
  simp only[]
  refine Xac 101 rfl _ rfl ⟨_,_,rfl,LD11.out,?_⟩
  clear LD11
  go_wp2_with fail
  go_loopg [11,12,69] 11 (fun k v11 v12 i wr=>∃j:Nat,j≤11∧k=11-j∧i=.int .i64 (j:Int)∧Hid (BD w q (Xez fWords (Xa4 c.p) j) wr)∧Hid (CB wr w.heap.size c gv rv 37))
  case atStart=>exact⟨0,by omega,rfl,rfl,B10,C10⟩
  case round=>
   clear B10 C10
   obtain⟨j,hj,rfl,rfl,bd,cb⟩:=hrel
   by_cases hlt:j<11
   ·obtain⟨s,hs,hsb⟩:=Yd4 VD.out j hlt
    have ix:∀w,(Instr.index 101 (.agg vs) (.int .i64 (j:Int))).run Tryz.prog w=.ok (.string s) w:=fun w=>by rw[HVS.out];exact Yfg rfl j hlt s hs w
    obtain⟨fw,hfw⟩:∃f,f=Xaq (fWords.getD j []):=⟨_,rfl⟩
    have cf:wr.cell? ⟨0,j,none⟩=some (.string fw):=by rw[hfw];exact(HE.out.below bd.out.bel HE.out.size).fw j hlt
    have fz:fw.size≤20:=by rw[hfw,Xan];exact Xuu j hlt
    have LS:=Xqe (ws:=fWords) (vs:=Xa4 c.p) (j:=j) (by show j<11;exact hlt) (by show j<11;exact hlt)
    have LE:=Xxc fWords (Xa4 c.p) (j+1)
    have LF:((fWords.zip (Xa4 c.p)).flatMap fun p=>p.1++32::p.2++[10]).length≤(Xbd c.p).length:=by unfold Xbd;rw[List.length_append];omega
    have sz:s.size≤10000000:=by
     have:=FL.out
     rw[LS] at LE
     rw[←Xaa,hsb]
     simp only[List.length_append,List.length_cons] at LE
     omega
    have lz:(Xez fWords (Xa4 c.p) j).length≤10000000:=by
     have:=FL.out
     rw[LS] at LE
     simp only[List.length_append] at LE
     omega
    have z1:(fw++(⟨#[32]⟩:ByteArray)).size≤21:=by rw[ByteArray.size_append];show fw.size+1≤21;omega
    have z2:(fw++(⟨#[32]⟩:ByteArray)++s).size≤10000100:=by rw[ByteArray.size_append];omega
    have z3:(fw++(⟨#[32]⟩:ByteArray)++s++(⟨#[10]⟩:ByteArray)).size≤10000101:=by rw[ByteArray.size_append];show _+1≤_;omega
    have TX:Hid (Xez fWords (Xa4 c.p) j++bs (fw++(⟨#[32]⟩:ByteArray)++s++(⟨#[10]⟩:ByteArray))=Xez fWords (Xa4 c.p) (j+1)):=Hd (by
     rw[LS,Xgf,Xgf,Xgf,hsb,hfw,Xc1 _ (Xyf j hlt)]
     simp[bs])
    have WR:=Hd (bd.out.write (fw++(⟨#[32]⟩:ByteArray)++s++(⟨#[10]⟩:ByteArray)) (by omega))
    have CB':=Hd cb.out
    rw[TX.out] at WR
    clear hs hsb hfw LS LE LF TX bd cb
    go_wp2_with fail
    refine WR.out.mono ?_
    rintro e w2 ⟨rfl,b2,k2⟩
    have B2:=Hd b2
    have C2:Hid (CB w2 w.heap.size c gv rv 37):=Hd (k2.same _ _ _ _ (by have:=CLT.out;omega) (by decide) CB'.out)
    clear b2 k2 WR CB' cf ix
    go_wp2_with fail
    go_roundg (11-(j+1))
    case measure=>omega
    case rel=>exact⟨j+1,by omega,rfl,by go_num,B2,C2⟩
   ·obtain rfl:j=11:=by omega
    have cb74:wr.cell? ⟨w.heap.size,74,none⟩=some (.string c.body):=cb.out.at (Xgu OK.out gv rv)
    have FE:Xez fWords (Xa4 c.p) 11++bs ((⟨#[10]⟩:ByteArray)++c.body)=Xbd c.p:=by rw[Xgf];rfl
    have bz:c.body.size≤1000000:=HIN.out.body
    have z1:((⟨#[10]⟩:ByteArray)++c.body).size≤1000001:=by rw[ByteArray.size_append];show 1+c.body.size≤_;omega
    have lz:(Xez fWords (Xa4 c.p) 11).length≤10000000:=by
     have:=FL.out
     rw[←FE,List.length_append] at this
     omega
    have WR:=Hd (bd.out.write ((⟨#[10]⟩:ByteArray)++c.body) (by omega))
    rw[FE] at WR
    clear FE bd cb hlt
    go_wp2_with fail
    refine WR.out.mono ?_
    rintro e w2 ⟨rfl,b2,k2⟩
    have TX:=Hd (b2.text (Yfj VD.out) (by have:=FL.out;omega))
    clear b2 k2 WR cb74
    go_wp2_with fail
    refine TX.out.mono ?_
    rintro e w3 ⟨rfl,hb3⟩
    have B3:=Hd hb3
    clear TX hb3
    go_wp2_with fail
    go_ret2
    exact(FX.out _ _).2 ⟨by rw[if_pos HP0.out.symm,←HP0.out];rfl,B3.out⟩
 ·have hz:((p0:Int) !=0)=true:=Xam (by omega)
  have FR:=Hd (I8.out.fr.trans ((Dr.below ⟨1,rfl⟩:Below w8.heap.size w8 w8.drew).mono I8.out.fr.size))
  have N0:=Hd h0
  clear h0
  go_upto_region 10 with fail
  go_quiet (fail)
  go_wp2_with fail
  go_ret2
  exact(FX.out _ _).2 ⟨by rw[←HP0.out,if_neg N0.out];rfl,I8.out.fr.trans ((Dr.below ⟨nq,rfl⟩).mono I8.out.fr.size)⟩
theorem Xu4 (w:World) (s:ByteArray) (hs:s.size≤10000000):∃cap w',(convert 9 62 (.string s)).run Tryz.prog w=.ok (.slice (some ⟨w.heap.size,0,none⟩) s.size cap) w'∧s.size≤cap∧cap≤maxLen∧Rd w' (some ⟨w.heap.size,0,none⟩) (bs s)∧Below w.heap.size w w':=by
 refine⟨_,_,run_bytes_of_string (P:=Tryz.prog) w 9 62 5 s Tryz.underlying9 Tryz.underlying62 Tryz.underlying5,grownCap_ge w s.size 0 _,grownCap_le_maxLen w s.size 0 _ (by unfold maxLen;omega),⟨Xga s,fun h0=>⟨w.heap.size,0,rfl,?_,fun i hi=>?_⟩⟩,?_⟩
 ·simp
 ·rw[cell_of_row _ w.heap.size (0+i) _ _ _ (heap_alloc_new w.drew _),Nat.zero_add]
  rw[Xaa] at hi
  unfold bytesRow
  rw[Array.getElem?_append_left (by rw[Array.size_map];exact hi),Array.getElem?_map]
  have hi2:i<s.data.size:=hi
  rw[Array.getElem?_eq_getElem hi2]
  simp[bs,U]
 ·exact((Below.refl w.heap.size w).drew).alloc (Nat.le_refl _) _
theorem Xd7 {P:Program} {o:Oper} {a:Act} {w w':World} {s d:TypeId} {x:Operand} {u v:Value} (ho:o.op=.convert s d x) (hx:a.eval x=u) (h:(convert s d u).run P w=.ok v w'):(execOp a.eval o).run P w=.ok (.value v) w':=by
 unfold execOp
 rw[ho]
 simp only[hx]
 rw[Sem.run_bind,h]
 rfl
theorem Xgi {P:Program} {ops:Array Oper} {rest:List Oper} {o:Oper} {a:Act} {w:World} {Q:Exit→Act→World→Prop} (s d:TypeId) (hgd:o.guard=none) (x:Operand) (ho:o.op=.convert s d x) (h:∃u v w',a.eval x=u∧(convert s d u).run P w=.ok v w'∧wpList P ops Q rest (a.put o.dst v) w'):wpList P ops Q (o::rest) a w:=by
 obtain⟨u,v,w',h1,h2,h3⟩:=h
 exact Xaz hgd (Xd7 ho h1 h2) h3
theorem Xfw {c:Cn} (ok:c.Ok) (h:Xc3 c.p=0):∀x∈Xbd c.p,x<256:=by
 have vd:=Xf1 h
 have jl:∀(s:Nat) (l:List (List Nat)),s<256→(∀y∈l,∀x∈y,x<256)→∀x∈Xa0 [s] l,x<256:=fun s l hs hl x hx=>by
  rcases Xiv s l x hx with rfl|⟨y,hy,hx⟩
  ·exact hs
  ·exact hl y hy x hx
 have vl:∀v∈Xa4 c.p,∀x∈v,x<256:=by
  intro v hv x hx
  unfold Xa4 at hv
  simp only[List.mem_cons,List.not_mem_nil,or_false] at hv
  rcases hv with rfl|rfl|rfl|rfl|rfl|rfl|rfl|rfl|rfl|rfl|rfl
  ·exact Xga c.name x hx
  ·have:=Xg8 ok.author.lt x hx;omega
  ·have:=Xdl (n:=c.date) vd.date.1 x hx;omega
  ·exact jl 44 _ (by decide) (fun y hy z hz=>by obtain⟨g,_,rfl⟩:=List.mem_map.1 (show y∈c.groups.map bs from hy);exact Xga g z hz) x hx
  ·exact Xga c.subject x hx
  ·exact jl 32 _ (by decide) (fun y hy z hz=>by obtain⟨g,hg,rfl⟩:=List.mem_map.1 (show y∈c.refs.map Xc2 from hy);have:=Xfp (ok.refs g hg).lt z hz;omega) x hx
  ·unfold Xhf at hx
   split at hx
   ·cases hx
   ·have:=Xfp (l:=c.sup) ok.sup.lt x hx;omega
  ·exact Xga c.ctl x hx
  ·exact Xga c.dist x hx
  ·unfold Xj4 at hx
   rw[List.mem_append,List.mem_cons] at hx
   rcases hx with hx|rfl|hx
   ·have:=Xdl (n:=c.number) vd.number.1 x hx;omega
   ·decide
   ·exact Xyo _ x hx
  ·have:=Xdl (n:=c.leaf) vd.leaf.1 x hx;omega
 intro x hx
 unfold Xbd at hx
 rw[List.mem_append,List.mem_cons] at hx
 rcases hx with hx|rfl|hx
 ·obtain⟨p,hp,hx⟩:=List.mem_flatMap.1 hx
  rw[List.mem_append,List.mem_append,List.mem_cons,List.mem_singleton] at hx
  rcases hx with(hx|rfl|hx)|rfl
  ·have h1:=(List.of_mem_zip hp).1
   have:∀l∈fWords,∀x∈l,x<256:=by decide
   exact this _ h1 x hx
  ·decide
  ·exact vl _ (List.of_mem_zip hp).2 x hx
  ·decide
 ·decide
 ·exact Xga c.body x hx
def idV (c:Cont):List Nat:=if Xc3 c=0 then idF c else zero32
def IdP (c:Cont) (w:World) (e:Ending) (w':World):Prop:=
 e=.returned (.tuple #[.agg (idA (idV c)),.int .i64 ((Xc3 c:Nat):Int)])∧Below w.heap.size w w'
set_option maxHeartbeats 2000000 in
theorem Ydi (w:World) (c:Cn) (gv rv:Value) (hin:CnIn w c gv rv) (hF:Xc3 c.p=0→(Xbd c.p).length≤10000000) (hE:Env w):
    Calls Tryz.prog 11 #[.agg (c.cells gv rv)] w (IdP c.p w):=by
 have FX:Hid (∀e w',IdP c.p w e w'↔e=.returned (.tuple #[.agg (idA (idV c.p)),.int .i64 ((Xc3 c.p:Nat):Int)])∧Below w.heap.size w w'):=Hd (fun _ _=>Iff.rfl)
 obtain⟨zs,hzs⟩:∃zs,zs=idA zero32:=⟨_,rfl⟩
 have Z0:Hid (zs=#[.int .u8 0,.int .u8 0,.int .u8 0,.int .u8 0,.int .u8 0,.int .u8 0,.int .u8 0,.int .u8 0,.int .u8 0,.int .u8 0,.int .u8 0,.int .u8 0,.int .u8 0,.int .u8 0,.int .u8 0,.int .u8 0,.int .u8 0,.int .u8 0,.int .u8 0,.int .u8 0,.int .u8 0,.int .u8 0,.int .u8 0,.int .u8 0,.int .u8 0,.int .u8 0,.int .u8 0,.int .u8 0,.int .u8 0,.int .u8 0,.int .u8 0,.int .u8 0]):=Hd (by rw[hzs];rfl)
 obtain⟨w0,hw0⟩:∃w0,w0=(w.alloc (.cells (c.cells gv rv) 37)).alloc (.cells zs 26):=⟨_,rfl⟩
 have B0:Hid (Below w.heap.size w w0):=Hd (by rw[hw0];exact((Below.refl _ _).alloc (Nat.le_refl _) _).alloc (by simp) _)
 have C0:CB w0 w.heap.size c gv rv 37:=by unfold CB;rw[hw0];exact Xaf (heap_alloc_last w _)
 have R0:Hid (IB w0 (w.heap.size+1) 26 zero32):=Hd (by
  unfold IB;rw[hw0,←hzs];have:=heap_alloc_last (w.alloc (.cells (c.cells gv rv) 37)) (.cells zs 26);rw[World.size_alloc] at this;exact this)
 have SZ0:w0.heap.size=w.heap.size+2:=by rw[hw0];simp
 have LD:=Hd (C0.all hin.ok)
 have FM:=Hd (Xiy w0 c gv rv (hin.on B0.out) hF (hE.on B0.out))
 have HF:=Hd hF;have HE:=Hd hE
 have FLT:Hid (Xc3 c.p=0→∀x∈Xbd c.p,x<256):=Hd (fun h=>Xfw hin.ok h)
 obtain⟨cs,hcs⟩:∃cs,cs=c.cells gv rv:=⟨_,rfl⟩
 rw[←hcs] at hw0 LD FM⊢
 have HW:=Hd hw0
 clear hw0 hcs hin hF hE C0
 go_enter Tryz.func11,Tryz.ntmps11
 go_upto_region 1 with fail
 have W':=HW.out
 rw[Z0.out] at W'
 rw[←W']
 clear W' HW
 refine wp_region_list ?_
 simp only[]
 refine Xac 37 rfl _ rfl ⟨_,_,rfl,LD.out,?_⟩
 go_wp2_with fail
 refine FM.out.mono ?_
 rintro e w1 ⟨rfl,hb1⟩
 have B1:=Hd (B0.out.trans (hb1.mono B0.out.size))
 have R1:Hid (IB w1 (w.heap.size+1) 26 zero32):=Hd (R0.out.below hb1)
 clear hb1 FM LD R0 B0 SZ0
 obtain⟨tx,htx⟩:∃t,t=Xaq (if Xc3 c.p=0 then Xbd c.p else[]):=⟨_,rfl⟩
 rw[←htx]
 obtain⟨p0,hp0⟩:∃p,p=Xc3 c.p:=⟨_,rfl⟩
 rw[←hp0]
 have HP0:=Hd hp0;have HTX:=Hd htx
 clear hp0 htx
 have PW:Hid (∀w5 (l:List Nat),l.length=32→IB w5 (w.heap.size+1) 26 zero32→Below w.heap.size w w5→(storeVar 26 ⟨w.heap.size+1,0,none⟩ (.agg (idA l))).run Tryz.prog w5=.ok () (w5.setRow (w.heap.size+1) (idA l))∧IB (w5.setRow (w.heap.size+1) (idA l)) (w.heap.size+1) 26 l∧Below w.heap.size w (w5.setRow (w.heap.size+1) (idA l))):=Hd (fun w5 l hl hi hb=>
  ⟨run_storeVar_row w5 (w.heap.size+1) _ 26 _ _ hi (by rw[Xag,hl];exact Xbf) (by rw[Xag,Xag,hl];rfl) (Xdu _),setRow_heap w5 _ _ _ _ _ hi,below_setRow hb (Nat.le_succ _) _⟩)
 have SZ:Hid (∀l:List Nat,l.length=32→(Tryz.prog.info? 26).map (·.size)=some (idA l).size):=Hd (fun l hl=>by rw[Xag,hl];exact Xbf)
 by_cases h0:p0=0
 ·subst h0
  have hz:((((0:Nat):Int)) !=0)=false:=rfl
  have FL:=HF.out HP0.out.symm
  have TXE:tx=Xaq (Xbd c.p):=by rw[HTX.out,if_pos HP0.out.symm]
  have tz:tx.size≤10000000:=by rw[TXE,Xan];exact FL
  obtain⟨cap,w2,cv,hc1,hc2,rd,hb2⟩:=Xu4 w1 tx tz
  have CV:=Hd cv
  have B2:=B1.out.trans (hb2.mono B1.out.size)
  have SH:=Yef w2 (some ⟨w1.heap.size,0,none⟩) cap (bs tx) rd (by rw[Xaa];exact tz) (by rw[Xaa];exact hc1) hc2 (HE.out.on B2)
  rw[Xaa] at SH
  have SHH:=Hd SH
  have R2:=R1.out.below hb2
  have IDV:Hid (idV c.p=Xwb (bs tx)):=Hd (by
   unfold idV idF
   rw[if_pos HP0.out.symm,TXE]
   by_cases hlt:∀x∈Xbd c.p,x<256
   ·rw[Xc1 _ hlt]
   ·exact absurd (FLT.out HP0.out.symm) hlt)
  have SL:(Xwb (bs tx)).length=32:=Xci _
  have FIN:Hid (∀w5,Below w2.heap.size w2 w5→(storeVar 26 ⟨w.heap.size+1,0,none⟩ (.agg (idA (Xwb (bs tx))))).run Tryz.prog w5=.ok () (w5.setRow (w.heap.size+1) (idA (Xwb (bs tx))))∧IB (w5.setRow (w.heap.size+1) (idA (Xwb (bs tx)))) (w.heap.size+1) 26 (Xwb (bs tx))∧Below w.heap.size w (w5.setRow (w.heap.size+1) (idA (Xwb (bs tx))))):=Hd (fun w5 hb=>PW.out w5 _ SL (R2.below hb) (B2.trans (hb.mono B2.size)))
  have SZ2:=Hd (SZ.out _ SL)
  obtain⟨rs,hrs⟩:∃rs,rs=idA (Xwb (bs tx)):=⟨_,rfl⟩
  have HRS:Hid (idA (idV c.p)=rs):=Hd (by rw[hrs,IDV.out])
  have HRS2:=Hd hrs
  rw[←hrs] at SHH FIN SZ2
  clear hrs FL TXE cv hc1 hc2 rd hb2 B2 SH R2 SL PW SZ
  go_wp2_with ((with_reducible refine Xgi 9 62 rfl _ rfl ?_);refine⟨_,_,_,rfl,CV.out,?_⟩)
  refine SHH.out.mono ?_
  rintro e w5 ⟨rfl,hb5⟩
  obtain⟨f0,f1,f2⟩:=FIN.out w5 hb5
  have F0:=Hd f0;have F1:=Hd f1;have F2:=Hd f2
  clear f0 f1 f2 hb5 FIN SHH CV
  go_wp2_with ((with_reducible refine Xab 26 rfl _ _ rfl ?_);refine⟨_,_,_,rfl,rfl,F0.out,?_⟩)
  have f1:=F1.out
  unfold IB at f1
  rw[←HRS2.out] at f1
  exact bodyPost_ret (Xa5 Tryz.results11 _ _ (w.heap.size+1) _ _ _ _ rfl f1 Tryz.underlying26 rfl SZ2.out) rfl ((FX.out _ _).2 ⟨by rw[HRS.out,←HP0.out];rfl,F2.out⟩)
 ·have hz:((p0:Int) !=0)=true:=Xam (by omega)
  have Z32:zero32.length=32:=by simp[zero32]
  obtain⟨f0,f1,f2⟩:=PW.out w1 zero32 Z32 R1.out B1.out
  have F0:=Hd f0;have F1:=Hd f1;have F2:=Hd f2
  have BZ:Hid (∀w,(Instr.build 26 #[]).run Tryz.prog w=.ok (.agg zs) w):=Hd (fun w=>by rw[Z0.out];kernel_rfl)
  have SZ2:=Hd (SZ.out _ Z32)
  have IDV:Hid (idV c.p=zero32):=Hd (by unfold idV;rw[if_neg (by rw[←HP0.out];exact h0)])
  rw[←hzs] at F0 F1 F2 SZ2
  have HZS:=Hd hzs
  clear f0 f1 f2 PW SZ hzs h0 Z32
  go_wp2_with (first
   |((with_reducible refine Xae 26 rfl rfl ?_);refine⟨_,BZ.out _,?_⟩)
   |((with_reducible refine Xab 26 rfl _ _ rfl ?_);refine⟨_,_,_,rfl,rfl,F0.out,?_⟩))
  have f1:=F1.out
  unfold IB at f1
  rw[←HZS.out] at f1
  exact bodyPost_ret (Xa5 Tryz.results11 _ _ (w.heap.size+1) _ _ _ _ rfl f1 Tryz.underlying26 rfl SZ2.out) rfl ((FX.out _ _).2 ⟨by rw[IDV.out,←HZS.out,←HP0.out];rfl,F2.out⟩)
end Go.Proofs.YtohmdledkhgdaaaGreatDoor
