/- (Content).Check (printed by gen_chk.py). -/
import Derived.Test.YtjolcnopipbkhaaGreatDoorVe07
namespace Go.Proofs.YtjolcnopipbkhaaGreatDoor
open Go.Proofs.Tryz
open Go.RowKit Go.Maps
set_option linter.unusedVariables false
set_option maxHeartbeats 100000000
set_option maxRecDepth 100000
structure CnIn (w:World) (c:Cn) (gv rv:Value):Prop where
 ok:c.Ok
 name:c.name.size≤1000000
 subject:c.subject.size≤1000000
 ctl:c.ctl.size≤1000000
 dist:c.dist.size≤1000000
 body:c.body.size≤1000000
 gl:c.groups.length≤1000000
 gz:∀g∈c.groups,g.size≤1000000
 rl:c.refs.length≤1000000
 srow:SRow w gv c.groups
 irow:IRow w rv c.refs
theorem CnIn.on {w w':World}{c:Cn}{gv rv:Value}(h:CnIn w c gv rv)(hb:Bw w w'):CnIn w' c gv rv:=⟨h.ok,h.name,h.subject,h.ctl,h.dist,h.body,h.gl,h.gz,h.rl,h.srow.below hb,h.irow.below hb⟩
structure ChI (w:World) (c:Cn) (gv rv:Value) (n:Nat) (wx:World):Prop where
 ck:Ck wx (w.heap.size+1) n
 fr:Bw w wx
 cb:CB wx w.heap.size c gv rv 39
 env:Env wx
 inp:CnIn wx c gv rv
section
variable {w:World} {c:Cn} {gv rv:Value} {n:Nat} {wx wy:World} (h:ChI w c gv rv n wx)
include h
theorem ChI.on (hb:Bw wx wy):ChI w c gv rv n wy:=⟨h.ck.below hb,h.fr.trans (hb.mono h.fr.size),h.cb.on hb,h.env.on hb,h.inp.on hb⟩
theorem ChI.step {m:Nat}(hw:CnIn w c gv rv)(hE:Env w)(h1:Ck wy (w.heap.size+1) m)(hf:Fr1 (w.heap.size+1) wx wy):ChI w c gv rv m wy:=by have b:=h.fr.trans (hf.below h.fr.size (Nat.le_succ _));exact⟨h1,b,h.cb.fr hf (by omega),hE.on b,hw.on b⟩
end
theorem Xte {P:Program}{Q:Exit→Act→World→Prop}{K:Act→World→Prop}{a:Act}{w:World}{o:Oper}{f:FuncId}{args:Array Value}(he:(execOp a.eval o).run P w=.ok (.enter f args) w) (hc:Calls P f args w fun e w'=>∃v,e=.returned v∧K (a.put o.dst v) w'):o.wp P a w K Q:=by unfold Oper.wp;rw[he,Oper.upon_enter];exact hc.mono fun e w' ⟨v,h1,h2⟩=>by subst h1;exact h2
theorem Xas {P:Program}{md:Region.Mode}{ops:Array Oper}{Q:Exit→Act→World→Prop}{S:World→Prop}{i:Nat}{o:Oper}{fuel:Nat}{listed:Array Bool}{a:Act}{w:World}{f:FuncId}{args:Array Value}(hr:Region.ready md ops listed=[i])(ho:ops[i]?=some o)(hw:Region.wanted o (yielded ops a.tmps)=true) (he:(execOp a.eval o).run P w=.ok (.enter f args) w) (hc:Calls P f args w fun e w'=>∃v,e=.returned v∧S w'∧wpAnyH P md ops Q S fuel (listed.setIfInBounds i true) (a.put o.dst v) w'):wpAnyH P md ops Q S (fuel+1) listed a w:=
 wpAnyH_all hr (by simp) (fun j hj=>by
  obtain rfl:j=i:=by simpa using hj
  unfold wpOp;simp only[ho];rw[qP hw];exact .inl (Xte he hc))
theorem Ycc (w:World)(c:Cn)(gv rv:Value)(hin:CnIn w c gv rv)(hE:Env w):zJ 11 #[.agg (c.cells gv rv)] w (.int .i64 (Xe0 c.p:Nat)):=by
 have d:=Hd hin;have u:=Hd hE;have s:=Hd hin.ok;have aZ:Hid (Xe0 c.p=(fe (Xfl (bs c.name) 60) (fe (eIf (decide (c.date<0)||decide (105190559<c.date)) 13) (fe (Xco (c.groups.map bs)) (fe (Xfl (bs c.subject) 200) (fe (Xgi c.refs) (fe (Xx4 c.p) (fe (Xk4 (bs c.dist)) (fe (eIf (decide (c.number<0)||decide (1000<c.number)) 2) (fe (eIf (!Xau c.height) 2) (fe (eIf (decide (c.leaf<0)||decide (Xbi c.height≤c.leaf)) 2) (fe (eIf (decide (57344<c.body.size)) 5) (Xfy (bs c.body)))))))))))))):=Hd (by rw[←Xac c.body];rfl);obtain⟨t,aH⟩:=xq (Xfl (bs c.name) 60);obtain⟨r,aI⟩:=xq (eIf (decide (c.date<0)||decide (105190559<c.date)) 13);obtain⟨A,aJ⟩:=xq (Xco (c.groups.map bs));obtain⟨E,aK⟩:=xq (Xfl (bs c.subject) 200);obtain⟨C,aL⟩:=xq (Xgi c.refs);obtain⟨G,aM⟩:=xq (Xx4 c.p);obtain⟨O,aN⟩:=xq (Xk4 (bs c.dist));obtain⟨F,aO⟩:=xq (eIf (decide (c.number<0)||decide (1000<c.number)) 2);obtain⟨Z,aP⟩:=xq (eIf (!Xau c.height) 2);obtain⟨p9,aQ⟩:=xq (eIf (decide (c.leaf<0)||decide (Xbi c.height≤c.leaf)) 2);obtain⟨aT,J⟩:=xq (eIf (decide (57344<c.body.size)) 5);obtain⟨T,L⟩:=xq (Xfy (bs c.body));rw[←aH,←aI,←aJ,←aK,←aL,←aM,←aN,←aO,←aP,←aQ,←J,←L] at aZ;have bE:=Hd aH;have aA:=Hd aI;have bF:=Hd aJ;have bG:=Hd aK;have bH:=Hd aL;have bI:=Hd aM;have bJ:=Hd aN;have aB:=Hd aO;have bK:=Hd aP;have aW:=Hd aQ;have aU:=Hd J;have aV:=Hd L;obtain⟨w0,M⟩:=xq ((w.alloc (.cells (c.cells gv rv) 39)).alloc (.cells #[.int .i64 0] 73));have I0:Hid (ChI w c gv rv 0 w0):=Hd (by
  have b1:Bw w (w.alloc (.cells (c.cells gv rv) 39)):=(zR _ _).alloc (zL _) _;have b2:Below (w.alloc (.cells (c.cells gv rv) 39)).heap.size (w.alloc (.cells (c.cells gv rv) 39)) w0:=by rw[M];exact(zR _ _).alloc (zL _) _
  have b:=b1.trans (b2.mono (by simp));refine⟨?_,b,(CB.new w c gv rv _).on b2,hE.on b,hin.on b⟩;have:=zN (w.alloc (.cells (c.cells gv rv) 39)) (.cells #[.int .i64 0] 73);rw[World.size_alloc,←M] at this;exact this)
 have aS:9≤w.heap.size+1:=by have:=hE.size;omega
 obtain⟨cs,bA⟩:=xq (c.cells gv rv);rw[←bA] at M⊢;have HW:=Hd M;clear bA M hin hE aH aI aJ aK aL aM aN aO aP aQ J L;go_enter func11,ntmps11;go_upto_region 2 with fail;rw[←HW.o];clear HW;have cn:w0.cell? ⟨w.heap.size,0,none⟩=some (.string c.name):=I0.o.cb.at (Yk0 c gv rv);have K:Hid (Calls prog 43 #[.pointer (some ⟨w.heap.size+1,0,none⟩),.string c.name,.int .i64 60] w0 (Xb7 w0 (w.heap.size+1) (fe 0 t))):=Hd (by rw[bE.o];exact Xtk w0 (w.heap.size+1) 0 I0.o.ck c.name 60 d.o.name (by omega) I0.o.env aS);go_wp2_with fail;refine K.o.mono ?_;rintro e w1 ⟨⟨v1,rfl⟩,h,f⟩;have W:=Hd (I0.o.step d.o u.o h f);clear h f I0 K cn;have cd:w1.cell? ⟨w.heap.size,17,none⟩=some (.int .i64 c.date):=W.o.cb.at (Yb5 s.o gv rv);go_upto_region 3 with fail;go_cut [] (fun wx=>Hid (ChI w c gv rv (fe (fe 0 t) r) wx))
 ·have D:(c.date<0)∨(¬c.date<0∧105190559<c.date)∨(¬c.date<0∧¬105190559<c.date):=by omega
  rcases D with l|⟨l,H⟩|⟨l,H⟩
  ·have z:decide (c.date<0)=true:=zT l;have j:r=eIf true 13:=by rw[aA.o,z];rfl
   have K:Hid (Calls prog 44 #[.pointer (some ⟨w.heap.size+1,0,none⟩),.bool true,.int .i64 13] w1 (Xb7 w1 (w.heap.size+1) (fe (fe 0 t) r))):=Hd (by rw[j];exact Xbs w1 (w.heap.size+1) _ W.o.ck true 13);clear j l;go_wp2_with fail;refine K.o.mono ?_;rintro e wy ⟨⟨v,rfl⟩,h,f⟩;have I:=Hd (W.o.step d.o u.o h f);clear h f K;go_wp2_with fail;go_meet;exact I
  ·have z:decide (c.date<0)=false:=zW l;have e2:decide (105190559<c.date)=true:=zT H;have j:r=eIf true 13:=by rw[aA.o,z,e2];rfl
   have K:Hid (Calls prog 44 #[.pointer (some ⟨w.heap.size+1,0,none⟩),.bool true,.int .i64 13] w1 (Xb7 w1 (w.heap.size+1) (fe (fe 0 t) r))):=Hd (by rw[j];exact Xbs w1 (w.heap.size+1) _ W.o.ck true 13);clear j l H;go_wp2_with fail;refine K.o.mono ?_;rintro e wy ⟨⟨v,rfl⟩,h,f⟩;have I:=Hd (W.o.step d.o u.o h f);clear h f K;go_wp2_with fail;go_meet;exact I
  have z:decide (c.date<0)=false:=zW l;have e2:decide (105190559<c.date)=false:=zW H;have j:r=eIf false 13:=by rw[aA.o,z,e2];rfl
  have K:Hid (Calls prog 44 #[.pointer (some ⟨w.heap.size+1,0,none⟩),.bool false,.int .i64 13] w1 (Xb7 w1 (w.heap.size+1) (fe (fe 0 t) r))):=Hd (by rw[j];exact Xbs w1 (w.heap.size+1) _ W.o.ck false 13);clear j l H;go_wp2_with fail;refine K.o.mono ?_;rintro e wy ⟨⟨v,rfl⟩,h,f⟩;have I:=Hd (W.o.step d.o u.o h f);clear h f K;go_wp2_with fail;go_meet;exact I
 case rest=>
 obtain⟨w2,y⟩:=xq wc;rw[←y] at hcut⊢;have I2:=hcut;clear hcut y W cd;have cg:w2.cell? ⟨w.heap.size,18,none⟩=some (gv):=I2.o.cb.at (Xxk s.o gv rv);have K:Hid (Calls prog 34 #[gv] w2 (Xtb A (Xa9 [44] (c.groups.map bs)) w2)):=Hd (by rw[bF.o];exact Xqe w2 gv c.groups I2.o.inp.srow d.o.gl d.o.gz I2.o.env);go_wp2_with fail;refine K.o.mono ?_;rintro e w3 ⟨tx,rfl,-,-,B⟩;have I3:=Hd (I2.o.on B);clear B I2 K cg;have K:=Hd (Xdp w3 (w.heap.size+1) _ I3.o.ck A);go_wp2_with fail;refine K.o.mono ?_;rintro e w4 ⟨⟨v4,rfl⟩,h,f⟩;have I4:=Hd (I3.o.step d.o u.o h f);clear h f I3 K;have cs:w4.cell? ⟨w.heap.size,19,none⟩=some (.string c.subject):=I4.o.cb.at (Xxj s.o gv rv);have K:Hid (Calls prog 43 #[.pointer (some ⟨w.heap.size+1,0,none⟩),.string c.subject,.int .i64 200] w4 (Xb7 w4 (w.heap.size+1) (fe (fe (fe (fe 0 t) r) A) E))):=Hd (by rw[bG.o];exact Xtk w4 (w.heap.size+1) _ I4.o.ck c.subject 200 d.o.subject (by omega) I4.o.env aS);go_wp2_with fail;refine K.o.mono ?_;rintro e w5 ⟨⟨v5,rfl⟩,h,f⟩;have I5:=Hd (I4.o.step d.o u.o h f);clear h f I4 K cs;have cr:w5.cell? ⟨w.heap.size,20,none⟩=some (rv):=I5.o.cb.at (Xxi s.o gv rv);have K:Hid (zJ 45 #[rv] w5 (.int .i64 (C:Nat))):=Hd (by rw[bH.o];exact Xmd w5 rv c.refs I5.o.inp.irow d.o.rl s.o.refs);go_wp2_with fail;refine K.o.mono ?_;rintro e w6 ⟨rfl,B⟩;have I6:=Hd (I5.o.on B);clear B I5 K cr;have K:=Hd (Xdp w6 (w.heap.size+1) _ I6.o.ck C);go_wp2_with fail;refine K.o.mono ?_;rintro e w7 ⟨⟨v7,rfl⟩,h,f⟩;have I7:=Hd (I6.o.step d.o u.o h f);clear h f I6 K;have LD:=Hd (I7.o.cb.all s.o);have K:Hid (Calls prog 46 #[.pointer (some ⟨w.heap.size+1,0,none⟩),.agg (c.cells gv rv)] w7 (Xb7 w7 (w.heap.size+1) (fe (fe (fe (fe (fe (fe 0 t) r) A) E) C) G))):=Hd (by rw[bI.o];exact Ygd w7 (w.heap.size+1) _ I7.o.ck c s.o gv rv d.o.ctl I7.o.env aS);obtain⟨ds,bB⟩:=xq (c.cells gv rv);rw[←bB] at LD K;clear bB;go_upto_region 8 with fail;refine wp_region_list ?_;simp only[];refine Xab 39 rfl _ rfl ⟨_,_,rfl,LD.o,?_⟩;go_wp2_with fail;refine K.o.mono ?_;rintro e w8 ⟨⟨v8,rfl⟩,h,f⟩;have I8:=Hd (I7.o.step d.o u.o h f);clear h f I7 K LD;have ct:w8.cell? ⟨w.heap.size,54,none⟩=some (.string c.dist):=I8.o.cb.at (Xxh s.o gv rv);have K:Hid (Calls prog 47 #[.pointer (some ⟨w.heap.size+1,0,none⟩),.string c.dist] w8 (Xb7 w8 (w.heap.size+1) (fe (fe (fe (fe (fe (fe (fe 0 t) r) A) E) C) G) O))):=Hd (by rw[bJ.o];exact Yfx w8 (w.heap.size+1) _ I8.o.ck c.dist d.o.dist);go_wp2_with fail;refine K.o.mono ?_;rintro e P ⟨⟨v9,rfl⟩,h,f⟩;have X:=Hd (I8.o.step d.o u.o h f);clear h f I8 K ct;have cu:P.cell? ⟨w.heap.size,55,none⟩=some (.int .i64 c.number):=X.o.cb.at (Yb4 s.o gv rv);go_upto_region 10 with fail;go_cut [] (fun wx=>Hid (ChI w c gv rv (fe (fe (fe (fe (fe (fe (fe (fe 0 t) r) A) E) C) G) O) F) wx))
 ·have D:(c.number<0)∨(¬c.number<0∧1000<c.number)∨(¬c.number<0∧¬1000<c.number):=by omega
  rcases D with l|⟨l,H⟩|⟨l,H⟩
  ·have z:decide (c.number<0)=true:=zT l;have j:F=eIf true 2:=by rw[aB.o,z];rfl
   have K:Hid (Calls prog 44 #[.pointer (some ⟨w.heap.size+1,0,none⟩),.bool true,.int .i64 2] P (Xb7 P (w.heap.size+1) (fe (fe (fe (fe (fe (fe (fe (fe 0 t) r) A) E) C) G) O) F))):=Hd (by rw[j];exact Xbs P (w.heap.size+1) _ X.o.ck true 2);clear j l;go_wp2_with fail;refine K.o.mono ?_;rintro e wy ⟨⟨v,rfl⟩,h,f⟩;have I:=Hd (X.o.step d.o u.o h f);clear h f K;go_wp2_with fail;go_meet;exact I
  ·have z:decide (c.number<0)=false:=zW l;have e2:decide (1000<c.number)=true:=zT H;have j:F=eIf true 2:=by rw[aB.o,z,e2];rfl
   have K:Hid (Calls prog 44 #[.pointer (some ⟨w.heap.size+1,0,none⟩),.bool true,.int .i64 2] P (Xb7 P (w.heap.size+1) (fe (fe (fe (fe (fe (fe (fe (fe 0 t) r) A) E) C) G) O) F))):=Hd (by rw[j];exact Xbs P (w.heap.size+1) _ X.o.ck true 2);clear j l H;go_wp2_with fail;refine K.o.mono ?_;rintro e wy ⟨⟨v,rfl⟩,h,f⟩;have I:=Hd (X.o.step d.o u.o h f);clear h f K;go_wp2_with fail;go_meet;exact I
  have z:decide (c.number<0)=false:=zW l;have e2:decide (1000<c.number)=false:=zW H;have j:F=eIf false 2:=by rw[aB.o,z,e2];rfl
  have K:Hid (Calls prog 44 #[.pointer (some ⟨w.heap.size+1,0,none⟩),.bool false,.int .i64 2] P (Xb7 P (w.heap.size+1) (fe (fe (fe (fe (fe (fe (fe (fe 0 t) r) A) E) C) G) O) F))):=Hd (by rw[j];exact Xbs P (w.heap.size+1) _ X.o.ck false 2);clear j l H;go_wp2_with fail;refine K.o.mono ?_;rintro e wy ⟨⟨v,rfl⟩,h,f⟩;have I:=Hd (X.o.step d.o u.o h f);clear h f K;go_wp2_with fail;go_meet;exact I
 case rest=>
 obtain⟨bD,y⟩:=xq wc;rw[←y] at hcut⊢;have aC:=hcut;clear hcut y X cu;have LD:=Hd (aC.o.cb.pk s.o);have K:Hid (zJ 48 #[.agg (pkC c.height c.root)] bD (.int .i64 (Z:Nat))):=Hd (by rw[bK.o];exact Xdw bD c.height s.o.root.len);obtain⟨pk,aR⟩:=xq (pkC c.height c.root);have aX:=Hd aR;rw[←aR] at LD K;clear aR;go_wp2_with ((with_reducible refine Xab 37 rfl _ rfl ?_);refine⟨_,_,rfl,LD.o,?_⟩)
 refine K.o.mono ?_;rintro e bP ⟨rfl,B⟩;have aD:=Hd (aC.o.on B);clear B aC K LD;have K:=Hd (Xdp bP (w.heap.size+1) _ aD.o.ck Z);go_wp2_with fail;refine K.o.mono ?_;rintro e k ⟨⟨bS,rfl⟩,h,f⟩;have aY:=Hd (aD.o.step d.o u.o h f);clear h f aD K;go_upto_region 12 with fail;go_cut [] (fun wx=>Hid (ChI w c gv rv (fe (fe (fe (fe (fe (fe (fe (fe (fe (fe 0 t) r) A) E) C) G) O) F) Z) p9) wx))
 ·have ID:=Hd (aY.o.on (Dr.below ⟨1,rfl⟩:Bw k k.drew));have g:(fun wx:World=>CB wx w.heap.size c gv rv 39) k.drew:=ID.o.cb;refine wp_region_held (S:=fun wx=>CB wx w.heap.size c gv rv 39) (by kernel_rfl) ?_;change wpAnyH _ _ _ _ _ _ _ _ k.drew;by_cases l:c.leaf<0
  ·have z:decide (c.leaf<0)=true:=zT l;have j:p9=eIf true 2:=by rw[aW.o,z];rfl
   have K:Hid (Calls prog 44 #[.pointer (some ⟨w.heap.size+1,0,none⟩),.bool true,.int .i64 2] k.drew (Xb7 k.drew (w.heap.size+1) (fe (fe (fe (fe (fe (fe (fe (fe (fe (fe 0 t) r) A) E) C) G) O) F) Z) p9))):=Hd (by rw[j];exact Xbs k.drew (w.heap.size+1) _ ID.o.ck true 2);clear j l;refine Xae 0 (.pointer (some ⟨w.heap.size,73,none⟩)) rfl (fun _ _=>by go_simp) g ?_;refine Xae 1 (.int .i64 c.leaf) rfl (fun w' hw'=>by have cl:=hw'.at (Xoe s.o gv rv);go_simp) g ?_;refine Xae 2 (.bool true) rfl (fun _ _=>by go_simp) g ?_;refine Xae 3 (.bool true) rfl (fun _ _=>by go_simp) g ?_;refine Xb0 4 rfl g ?_;refine Xb0 5 rfl g ?_;refine Xb0 6 rfl g ?_;refine Xb0 7 rfl g ?_;refine Xb0 8 rfl g ?_;refine Xb0 9 rfl g ?_;refine Xae 10 (.bool true) rfl (fun _ _=>by go_simp) g ?_;refine Xas (i:=11) (f:=44) (args:=#[.pointer (some ⟨w.heap.size+1,0,none⟩),.bool true,.int .i64 2]) (by kernel_rfl) rfl (by kernel_rfl) (by kernel_rfl) ?_;refine K.o.mono ?_;rintro e wy ⟨⟨v,rfl⟩,h,f⟩;have I:=Hd (ID.o.step d.o u.o h f);clear h f K;refine⟨v,rfl,I.o.cb,?_⟩;refine wpAnyH_done (by kernel_rfl) ?_ _;go_simp;clear g;refine‹∀(a:Act) (w_1:World),_→_› _ _ ?_;go_meet;exact I
  have z:decide (c.leaf<0)=false:=zW l;obtain⟨q,Y⟩:=xq (decide (Xbi c.height≤c.leaf));have j:p9=eIf q 2:=by rw[aW.o,z,Y];rfl
  have LV:Hid (Calls prog 49 #[.agg pk] k.drew fun e w'=>e=.returned (.int .i64 (Xbi c.height))∧Below k.drew.heap.size k.drew w'):=Hd (by rw[aX.o];exact Xws k.drew c.height s.o.root.len);have bO:decide (Xbi c.height≤c.leaf)=q:=Y.symm;obtain⟨lv,bC⟩:=xq (Xbi c.height);rw[←bC] at LV bO;have bL:=Hd j;have bM:Hid (∀wx,CB wx w.heap.size c gv rv 39→Ld 37 ⟨w.heap.size,56,none⟩ wx (.agg pk)):=Hd (fun wx h=>by rw[aX.o];exact CB.pk h s.o);clear j l Y bC;refine Xae 0 (.pointer (some ⟨w.heap.size,73,none⟩)) rfl (fun _ _=>by go_simp) g ?_;refine Xae 1 (.int .i64 c.leaf) rfl (fun w' hw'=>by have cl:=hw'.at (Xoe s.o gv rv);go_simp) g ?_;refine Xae 2 (.bool false) rfl (fun _ _=>by go_simp) g ?_;refine Xae 3 (.bool false) rfl (fun _ _=>by go_simp) g ?_;refine Xae 4 (.pointer (some ⟨w.heap.size,73,none⟩)) rfl (fun _ _=>by go_simp) g ?_;refine Xae 5 (.int .i64 c.leaf) rfl (fun w' hw'=>by have cl:=hw'.at (Xoe s.o gv rv);go_simp) g ?_;refine Xae 6 (.pointer (some ⟨w.heap.size,56,none⟩)) rfl (fun _ _=>by go_simp) g ?_;refine Xae 7 (.agg pk) rfl (fun w' hw'=>Xaj (ty:=37) (x:=.tmp 57) (ad:=⟨w.heap.size,56,none⟩) rfl (by kernel_rfl) (bM.o w' hw')) g ?_;refine Xas (i:=8) (f:=49) (args:=#[.agg pk]) (by kernel_rfl) rfl (by kernel_rfl) (by kernel_rfl) ?_;refine LV.o.mono ?_;rintro e wz ⟨rfl,B⟩;have aG:=Hd (ID.o.on B);have K:Hid (Calls prog 44 #[.pointer (some ⟨w.heap.size+1,0,none⟩),.bool q,.int .i64 2] wz (Xb7 wz (w.heap.size+1) (fe (fe (fe (fe (fe (fe (fe (fe (fe (fe 0 t) r) A) E) C) G) O) F) Z) p9))):=Hd (by rw[bL.o];exact Xbs wz (w.heap.size+1) _ aG.o.ck q 2);have g:=aG.o.cb;refine⟨_,rfl,g,?_⟩;clear B LV;refine Xae 9 (.bool q) rfl (fun _ _=>by go_simp) g ?_;refine Xae 10 (.bool q) rfl (fun _ _=>by go_simp) g ?_;refine Xas (i:=11) (f:=44) (args:=#[.pointer (some ⟨w.heap.size+1,0,none⟩),.bool q,.int .i64 2]) (by kernel_rfl) rfl (by kernel_rfl) (by kernel_rfl) ?_;refine K.o.mono ?_;rintro e wy ⟨⟨v,rfl⟩,h,f⟩;have I:=Hd (aG.o.step d.o u.o h f);clear h f K;refine⟨v,rfl,I.o.cb,?_⟩;refine wpAnyH_done (by kernel_rfl) ?_ _;go_simp;clear g;refine‹∀(a:Act) (w_1:World),_→_› _ _ ?_;go_meet;exact I
 case rest=>
 obtain⟨U,y⟩:=xq wc;rw[←y] at hcut⊢;have Q:=hcut;clear hcut y aY;have cb:U.cell? ⟨w.heap.size,74,none⟩=some (.string c.body):=Q.o.cb.at (Xsx s.o gv rv);obtain⟨q,Y⟩:=xq (decide (57344<c.body.size));have dq:decide ((57344:Int)<(c.body.size:Int))=q:=by rw[Y];simp;omega
 have bN:decide (57344<c.body.size)=q:=Y.symm;have K:Hid (Calls prog 44 #[.pointer (some ⟨w.heap.size+1,0,none⟩),.bool q,.int .i64 5] U (Xb7 U (w.heap.size+1) (fe (fe (fe (fe (fe (fe (fe (fe (fe (fe (fe 0 t) r) A) E) C) G) O) F) Z) p9) aT))):=Hd (by rw[aU.o,←Y];exact Xbs U (w.heap.size+1) _ Q.o.ck q 5);have bR:c.body.size≤1000000:=d.o.body;clear Y;go_wp2_with fail;refine K.o.mono ?_;rintro e V ⟨⟨bT,rfl⟩,h,f⟩;have R:=Hd (Q.o.step d.o u.o h f);clear h f Q K cb dq bN;have cb:V.cell? ⟨w.heap.size,74,none⟩=some (.string c.body):=R.o.cb.at (Xsx s.o gv rv);have K:Hid (Calls prog 50 #[.string c.body] V fun e w'=>∃m:Int,e=.returned (.tuple #[.int .i64 m,.int .i64 (T:Nat)])∧Bw V w'):=Hd (by rw[aV.o];exact Xs0 c.body V d.o.body R.o.env);go_wp2_with fail;refine K.o.mono ?_;rintro e bQ ⟨m,rfl,B⟩;have aE:=Hd (R.o.on B);clear B R K cb;have K:=Hd (Xdp bQ (w.heap.size+1) _ aE.o.ck T);go_wp2_with fail;refine K.o.mono ?_;rintro e bV ⟨⟨bU,rfl⟩,h,f⟩;have aF:=Hd (aE.o.step d.o u.o h f);clear h f aE K;have ce:=aF.o.ck.cell;have FR:=Hd aF.o.fr;have N:Hid ((fe (fe (fe (fe (fe (fe (fe (fe (fe (fe (fe (fe 0 t) r) A) E) C) G) O) F) Z) p9) aT) T)=Xe0 c.p):=Hd (by rw[aZ.o];simp only[Xjm];rfl);obtain⟨m,hm⟩:=xq ((fe (fe (fe (fe (fe (fe (fe (fe (fe (fe (fe (fe 0 t) r) A) E) C) G) O) F) Z) p9) aT) T));rw[←hm] at ce N;clear hm aF;go_wp2_with fail;go_ret;exact⟨by rw[N.o];rfl,FR.o⟩
theorem Rd.fr1 {w w':World}{a:Option Addr}{l:List Nat}{b:Nat}(h:Rd w a l)(hf:Fr1 b w w')(hne:∀ad,a=some ad→0<l.length→ad.block≠b):Rd w' a l:=
 ⟨h.lt,fun h0=>by obtain⟨d,off,rfl,c,e⟩:=h.at_ h0;refine⟨d,off,rfl,Nat.lt_of_lt_of_le c hf.size,fun i hi=>?_⟩;rw[←e i hi];have:=hf.other d c (hne _ rfl h0);unfold World.cell?;simp only[];rw[this]⟩
theorem Rd.drop {w:World}{b off n:Nat}{l:List Nat}(h:Rd w (some ⟨b,off,none⟩) l):Rd w (some ⟨b,off+n,none⟩) (l.drop n):=
 ⟨fun x hx=>h.lt x (List.mem_of_mem_drop hx),fun h0=>by rw[List.length_drop] at h0;obtain⟨f,c,e,a,d⟩:=h.at_ (by omega);cases e;refine⟨b,off+n,rfl,a,fun i hi=>?_⟩;rw[List.length_drop] at hi;rw[List.getElem_drop,←d (n+i) (by omega),Nat.add_assoc]⟩
theorem Rd.nil (w:World)(a:Option Addr):Rd w a []:=⟨fun x hx=>(by cases hx),fun h=>absurd h (by simp)⟩
theorem Xbr {P:Program}{ops:Array Oper}{Q:Exit→Act→World→Prop}{i:Nat}{o:Oper}{K:Act→World→Prop}{a:Act}{w:World}{v:Value}(ho:ops[i]?=some o)(hg:o.guard=none) (he:(execOp a.eval o).run P w=.ok (.value v) w) (h:K (a.put o.dst v) w):wpOp P ops Q i K a w:=Xbw ho hg (Xb1 he h)
theorem Xa1 {P:Program}{ops:Array Oper}{Q:Exit→Act→World→Prop}{i:Nat}{o:Oper}{K:Act→World→Prop}{a:Act}{w w':World}(ho:ops[i]?=some o)(hg:o.guard=none) (he:(execOp a.eval o).run P w=.ok .skip w') (h:K (a.put o.dst undef) w'):wpOp P ops Q i K a w:=Xbw ho hg (Xcg he h)
theorem Xao {P:Program}{ops:Array Oper}{Q:Exit→Act→World→Prop}{i:Nat}{o:Oper}{K:Act→World→Prop}{a:Act}{w:World}{f:FuncId}{args:Array Value}(ho:ops[i]?=some o)(hg:o.guard=none) (he:(execOp a.eval o).run P w=.ok (.enter f args) w) (hc:Calls P f args w fun e w'=>∃v,e=.returned v∧K (a.put o.dst v) w'):wpOp P ops Q i K a w:=Xbw ho hg (Xte he hc)
theorem Xbc {P:Program}{md:Region.Mode}{ops:Array Oper}{Q:Exit→Act→World→Prop}{i:Nat}{fuel:Nat}{listed:Array Bool}{a:Act}{w:World}(hr:Region.ready md ops listed=[i]) (h:wpOp P ops Q i (wpAny P md ops Q fuel (listed.setIfInBounds i true)) a w):wpAny P md ops Q (fuel+1) listed a w:=
 wpAny_all hr (by simp) (fun j hj=>by
  obtain rfl:j=i:=by simpa using hj
  exact h)
theorem Xoo {P:Program}{md:Region.Mode}{ops:Array Oper}{Q:Exit→Act→World→Prop}{i k:Nat}{fuel:Nat}{listed:Array Bool}{a:Act}{w:World}(hr:Region.ready md ops listed=[i,k]) (h:wpOp P ops Q i (wpAny P md ops Q fuel (listed.setIfInBounds i true)) a w) (h2:wpOp P ops Q k (wpAny P md ops Q fuel (listed.setIfInBounds k true)) a w):wpAny P md ops Q (fuel+1) listed a w:=
 wpAny_all hr (by simp) (fun j hj=>by
  simp only[List.mem_cons,List.not_mem_nil,or_false] at hj;rcases hj with rfl|rfl;·exact h
  exact h2)
theorem Xou (w:World)(b:Nat)(h:Hs)(a:Option Addr)(cap:Nat)(l:List Nat)(hk:HK w b h)(ho:h.Ok)(hr:Rd w a l)(hne:∀ad,a=some ad→0<l.length→ad.block≠b)(hl:h.len+l.length≤1000000000)(hcap:l.length≤cap)(hcm:cap≤maxLen)(hE:Env w)(hb9:9≤b):Calls prog 85 #[.pointer (some ⟨b,0,none⟩),.slice a l.length cap] w fun e w'=>(∃v,e=.returned v)∧HK w' b (wrF h l)∧Fr1 b w w':=by
 obtain⟨h1,Y⟩:∃h1:Hs,h1=⟨if h.len=0 then sh0 else h.st,h.blk,h.len⟩:=⟨_,rfl⟩
 have bH:Hid (wrF h l=wrN l.length h1 l):=Hd (by rw[Y];rfl);have HO:=Hd ho;have bV:Hid h1.Ok:=Hd (by rw[Y];exact⟨by show W8.Ok (if _ then _ else _);split;exact Xty;exact ho.st,ho.blk⟩);have LN:Hid (h1.len=h.len):=Hd (by rw[Y]);have IN:=Hd (Yfc w);have S:=hk.len ho.blk.len;have aN:=Hd hk;have HR:=Hd hr;have NE:=Hd hne;have HE:=Hd hE;have aY:=Hd Y;unfold maxLen at hcm;obtain⟨L,hL⟩:=xq l.length;have HL:=Hd hL;have bU:Hid (h.len+L≤1000000000):=Hd (by rw[hL];exact hl);have aR:L≤cap:=by rw[hL];exact hcap
 obtain⟨aA,aU⟩:=xq h.len;rw[←aU] at S;have aZ:=Hd aU;rw[←hL];clear hk ho hr hne hE Y hL hl hcap aU;go_enter func85,ntmps85
 go_upto_if 12 with fail
 go_cut [] (fun wx=>Hid (HK wx b h1)∧Hid (Fr1 b w wx))
 ·by_cases h0:aA=0
  ·have hz:((aA:Int)==0)=true:=by rw[h0];rfl
   have E1:Hid (h1=⟨sh0,h.blk,h.len⟩):=Hd (by rw[aY.o,qP (by rw[←aZ.o];exact h0)]);obtain⟨vs,aV⟩:=xq (wC sh0);rw[←aV] at IN;have bW:=Hd aV;clear aV h0;go_wp2_with fail;refine IN.o.mono ?_;rintro e w1 ⟨rfl,aQ⟩;obtain⟨s1,s2⟩:=(aN.o.below aQ).setSt sh0;rw[←bW.o] at s1;rw[←E1.o] at s1 s2;have S1:=Hd s1;have S2:=Hd s2;have FF:Hid (Fr1 b w (w1.setRow b (hC h1))):=Hd ((Fr1.of_below aQ).trans ⟨rfl,rfl,rfl,by simp[World.setRow],fun k hk hne=>setRow_other w1 b k _ hne⟩);clear s1 s2 aQ IN S;go_wp2_with ((with_reducible refine Xaa 191 rfl _ _ rfl ?_);refine⟨_,_,_,rfl,rfl,S1.o,?_⟩)
   go_meet;exact⟨S2,FF⟩
  have hz:((aA:Int)==0)=false:=Xar (by omega);have E1:Hid (h1=h):=Hd (by rw[aY.o,qN (by rw[←aZ.o];exact h0)]);clear h0;go_wp2_with fail;go_meet;exact⟨Hd (by rw[E1.o];exact aN.o),Hd (Fr1.refl _ _)⟩
 case rest=>
 obtain⟨wd,bS⟩:=xq wc;rw[←bS] at hcut⊢;obtain⟨bM,f1⟩:=hcut;have bD:Hid (Rd wd a l):=Hd (HR.o.fr1 f1.o NE.o);have cB:Hid (Env wd):=Hd (Xbv HE.o hb9 f1.o);clear bS S IN aN HR;go_wp2_with fail;go_loopg [1,5] L (fun k v1 v5 wr=>∃(d:Hs) (c:List Nat) (ac:Option Addr) (K m:Nat),k=m∧v1=.slice ac m K∧m≤K∧K≤9223372036854775807∧Hid (m=c.length)∧Hid (d.Ok)∧Hid (HK wr b d)∧Hid (Rd wr ac c)∧Hid (∀ad,ac=some ad→0<c.length→ad.block≠b)∧Hid (d.len+c.length≤1000000000)∧Hid (wrF h l=wrN c.length d c)∧Hid (Fr1 b w wr));exact⟨h1,l,a,cap,L,rfl,rfl,aR,by omega,HL,bV,bM,bD,NE,Hd (by rw[LN.o,←HL.o];exact bU.o),bH,f1⟩;obtain⟨d,c,ac,K,m,rfl,rfl,hm,cD,E,I,bA,aO,bJ,bI,aL,Fc⟩:=hrel;clear bM f1 bD bH;by_cases h0:0<gk
 ·obtain⟨b',off,rfl,bY,bK⟩:=aO.o.at_ (by rw[←E.o];exact h0);have CL:=Hd bK;obtain⟨N,hN⟩:=xq d.len;have cC:N≤1000000000:=by have:=bI.o;omega
  obtain⟨p,hp⟩:=xq (N%64);have cG:p<64:=by omega
  obtain⟨n,hn⟩:=xq (min (64-p) gk);have cE:1≤n:=by omega
  have cF:n≤gk:=by omega
  have bZ:p+n≤64:=by omega
  have jt:(N:Int).tmod 64=(p:Int):=by rw[Int.tmod_eq_emod_of_nonneg (by omega)];omega
  have p0:(0:Int)≤(p:Int):=by omega
  have p1:(p:Int)<64:=by omega
  have p2:(p:Int)≤64:=by omega
  have p3:¬(64=p):=by omega
  have Z:(c.take n).length=n:=by rw[List.length_take,←E.o];omega
  obtain⟨wY,hY⟩:=xq wr.drew;have dY:Bw wr wY:=by rw[hY];exact(zR _ _).drew
  have K1:=bA.o.below dY;have S:wY.cell? ⟨b,72,none⟩=some (.int .i64 (N:Int)):=by rw[hN];exact K1.len I.o.blk.len
  have KY:=Hd K1;have DY:=Hd dY;have HN:=Hd hN;have HP:=Hd hp;have aF:=Hd hn;clear K1 dY hN hp hn bK;go_upto_region 6 with fail;refine wp_region_still_tail 10 (by kernel_rfl) (by kernel_rfl) ?_;simp only[List.take_succ_cons,List.take_zero,List.drop_succ_cons,List.drop_zero];change wpStill _ _ wr.drew (fun a'=>wpList _ _ _ _ a' wr.drew) _ _;rw[←hY];clear hY;repeat still_step
  refine wpStill_nil ?_;have LB:=I.o.blk.len;have CC:=Xxf (h:=d) LB (p:=p) (cs:=c.take n) (by rw[Z];exact bZ);obtain⟨hd,aT⟩:∃hd:Hs,hd=⟨d.st,d.blk.take p++c.take n++d.blk.drop (p+(c.take n).length),d.len⟩:=⟨_,rfl⟩
  rw[←aT] at CC;obtain⟨cs,O⟩:=xq ((c.take n).map U);have T:cs.length=n:=by rw[O,List.length_map,Z]
  rw[←O] at CC;have bX:Hid (∀j v,cs[j]?=some v→wY.cell? ((⟨b',off,none⟩:Addr).add j)=some v):=Hd (fun j v hv=>by
   have hj:j<n:=by rw[←T];exact(List.getElem?_eq_some_iff.1 hv).1
   have bL:j<c.length:=by rw[←E.o];omega
   rw[Addr.add_mid,DY.o.cell (p:=⟨b',off+j,none⟩) bY,CL.o j bL,←hv,O,List.getElem?_map,List.getElem?_take_of_lt hj,List.getElem?_eq_getElem bL];rfl)
  have C1:Hid (∀v∈cs,v.oneCell'=true):=Hd (fun v hv=>by rw[O] at hv;obtain⟨y,_,rfl⟩:=List.mem_map.1 hv;rfl);have aX:Hid (8+p+cs.length≤(hC d).size):=Hd (by rw[Xkv LB,T];omega);have bB:Hid (cs.length=Nat.min gk (64-p)):=Hd (by rw[T,aF.o];exact Nat.min_comm _ _);have GI:Hid (goInt cs.length=.int .i64 (n:Int)):=Hd (by rw[T];rfl);obtain⟨w1,aK⟩:=xq (wY.setRow b ((hC d).toList.take (8+p)++(cs++(hC d).toList.drop (8+p+cs.length))).toArray);have aW:=Hd CC;have aD:Hid (HK w1 b hd):=Hd (by rw[aK,aW.o];exact setRow_heap wY b _ _ _ _ KY.o);have F1:Hid (Fr1 b w w1):=Hd (Fc.o.trans ((Fr1.of_below DY.o).trans (by rw[aK];exact⟨rfl,rfl,rfl,by simp[World.setRow],fun k hk hne=>setRow_other wY b k _ hne⟩)));have bF:=Hd aK;have cA:=Hd O;have D:=Hd aT;clear LB CC aT O T aK aW S jt Z CL;refine wpList_copy_own rfl (.tmp 28) (.tmp 29) 82 82 rfl 5 underlying82 (by kernel_rfl) b (8+p) (64-p) (64-p) ⟨b',off,none⟩ gk K rfl rfl (hC d) _ KY.o cs bB.o bX.o aX.o C1.o ?_;rw[GI.o,←bF.o];obtain⟨oa,aJ⟩:∃oa:Option Addr,oa=if K=n then some ⟨b',off,none⟩ else some ⟨b',off+n,none⟩:=⟨_,rfl⟩
  have aM:b'≠b:=bJ.o _ rfl (by rw[←E.o];exact h0);have aH:Hid (∀ad,oa=some ad→0<(c.drop n).length→ad.block≠b):=Hd (fun ad e _=>by
   rw[aJ] at e;by_cases e2:K=n;·rw[qP e2] at e;cases e;exact aM
   rw[qN e2] at e;cases e;exact aM)
  have aI:Hid (∀wx,Fr1 b wr wx→Rd wx oa (c.drop n)):=Hd (fun wx hf=>by
   have r1:Rd wx (some ⟨b',off,none⟩) c:=aO.o.fr1 hf bJ.o;rw[aJ];by_cases e:K=n;·have:c.drop n=[]:=List.drop_of_length_le (by rw[←E.o];omega);rw[this];exact Rd.nil _ _
   rw[qN e];exact r1.drop)
  have n0:(0:Int)≤(n:Int):=by omega
  have nG:(n:Int)≤(gk:Int):=by omega
  have nC:n≤K:=by omega
  have bC:=Hd aJ;have c1:w1.cell? ⟨b,72,none⟩=some (.int .i64 (N:Int)):=by have:=aD.o.len (by rw[D.o];show(d.blk.take p++c.take n++d.blk.drop (p+(c.take n).length)).length=64;simp[I.o.blk.len];have:=E.o;omega);rw[this,D.o];show some (Value.int .i64 (d.len:Int))=_;rw[←HN.o]
  have f1:w1.frozen? ⟨b,72,none⟩=false:=Xby aD.o 72;have wN:IntKind.i64.wrap ((N:Int)+(n:Int))=(N:Int)+(n:Int):=IntWalk.i64_in _ (by omega);obtain⟨M,hM⟩:=xq (N+n);have eM:(N:Int)+(n:Int)=(M:Int):=by omega
  have FW:Hid (Fr1 b wr w1):=Hd ((Fr1.of_below DY.o).trans (by rw[bF.o];exact⟨rfl,rfl,rfl,by simp[World.setRow],fun k hk hne=>setRow_other wY b k _ hne⟩));clear aJ;go_upto_region 8 with fail;rw[←bC.o];clear bC;obtain⟨q,F⟩:∃q:Hs,q=⟨hd.st,hd.blk,M⟩:=⟨_,rfl⟩
  obtain⟨w2,aB⟩:=xq (w1.setCell ⟨b,72,none⟩ (.int .i64 (M:Int)));have aS:hd.blk.length=64:=by rw[D.o];show(d.blk.take p++c.take n++d.blk.drop (p+(c.take n).length)).length=64;simp[I.o.blk.len];have:=E.o;omega
  have H2:Hid (HK w2 b q):=Hd (by rw[aB,F];exact aD.o.setLen aS M);have F2:Hid (Fr1 b w w2):=Hd (F1.o.trans (by rw[aB];exact Fr1.setC _));have aC:Hid (Fr1 b wr w2):=Hd (FW.o.trans (by rw[aB];exact Fr1.setC _));have c2:w2.cell? ⟨b,72,none⟩=some (.int .i64 (M:Int)):=by have:=H2.o.len (by rw[F];exact aS);rw[this,F]
  have bG:=Hd aB;have bl:hd.blk=d.blk.take (d.len%64)++c.take (min (64-d.len%64) c.length)++d.blk.drop (d.len%64+min (64-d.len%64) c.length):=by rw[D.o,←HN.o,←HP.o,←E.o,←aF.o];show d.blk.take p++c.take n++d.blk.drop (p+(c.take n).length)=_;rw[show(c.take n).length=n by rw[List.length_take,←E.o];omega]
  have BL:=Hd bl;have WS:=Xov I.o aO.o.lt;rw[←bl] at WS;have R:Hid (q.Ok):=Hd (by rw[F];exact⟨by show W8.Ok hd.st;rw[D.o];exact I.o.st,WS.2⟩);have H:Hid (Xcl d c=⟨if M%64=0 then Xgy d.st (ldF hd.blk) else d.st,hd.blk,M⟩):=Hd (by unfold Xcl;simp only[];rw[←bl,←HN.o,←HP.o,←E.o,←aF.o,←hM]);have G:Hid (wrF h l=wrN (c.drop n).length (Xcl d c) (c.drop n)):=Hd (by rw[aL.o,Yc9 d c (by rw[←E.o];exact h0),←HN.o,←HP.o,←E.o,←aF.o]);have A:Hid (gk-n=(c.drop n).length):=Hd (by rw[List.length_drop,←E.o]);have aG:Hid (M+(c.drop n).length≤1000000000):=Hd (by have:=bI.o;rw[←HN.o,←E.o] at this;rw[←A.o,hM];omega);have aE:=Hd F;have bE:Hid (q.st=d.st):=Hd (by rw[F,D.o]);have bT:Hid (Env w2):=Hd (Xbv HE.o hb9 F2.o);have aP:=Hd WS.1;clear F aB aS bl WS hM;go_upto_region 9 with fail;rw[←bG.o];clear bG c1 f1 aD D;by_cases e64:M%64=0
  ·have jm:(M:Int).tmod 64=0:=by rw[Int.tmod_eq_emod_of_nonneg (by omega)];omega
   have S2:Hid (Xcl d c=⟨Xgy q.st (ldF q.blk),q.blk,q.len⟩):=Hd (by rw[H.o,qP e64,bE.o,aE.o]);clear e64;obtain⟨wZ,hZ⟩:=xq w2.drew;have dZ:Bw w2 wZ:=by rw[hZ];exact(zR _ _).drew
   have DZ:=Hd dZ;have HZ:=Hd (H2.o.below dZ);have EZ:=Hd (bT.o.on dZ);have LS:Hid (∀wx,HK wx b q→Ld 191 ⟨b,0,none⟩ wx (.agg (wC q.st))):=Hd (fun wx hx=>HK.st hx);have LB:Hid (∀wx,HK wx b q→Ld 184 ⟨b,8,none⟩ wx (.agg (idA q.blk))):=Hd (fun wx hx=>HK.blk hx R.o.blk.len);have P:=Hd (Ye3 wZ R.o.blk);have L6:Hid (L16 (ldF q.blk)):=Hd (Yah R.o.blk.lt 64);have J:Hid (∀wx,Bw wZ wx→zJ 133 #[.agg (wC q.st),.agg (wA (ldF q.blk))] wx (.agg (wC (Xgy q.st (ldF q.blk))))):=Hd (fun wx hb=>Xrq wx R.o.st L6.o (EZ.o.on hb));have z:Hid (∀wx,Bw wZ wx→Sv 191 ⟨b,0,none⟩ (.agg (wC (Xgy q.st (ldF q.blk)))) wx (wx.setRow b (hC (Xcl d c)))∧HK (wx.setRow b (hC (Xcl d c))) b (Xcl d c)∧Fr1 b w2 (wx.setRow b (hC (Xcl d c)))):=Hd (fun wx hb=>by rw[S2.o];obtain⟨s1,s2⟩:=(HZ.o.below hb).setSt (Xgy q.st (ldF q.blk));exact⟨s1,s2,(Fr1.of_below DZ.o).trans ((Fr1.of_below hb).trans ⟨rfl,rfl,rfl,by simp[World.setRow],fun k hk hne=>setRow_other wx b k _ hne⟩)⟩);have Q:Hid ((Xcl d c).len=M):=Hd (by rw[H.o]);obtain⟨v1,bO⟩:=xq (wC q.st);obtain⟨v2,bP⟩:=xq (idA q.blk);obtain⟨v3,bQ⟩:=xq (wA (ldF q.blk));obtain⟨v4,bR⟩:=xq (wC (Xgy q.st (ldF q.blk)));rw[←bO] at LS J;rw[←bP] at LB P;rw[←bQ] at P J;rw[←bR] at J z;clear bO bP bQ bR dZ S2 H;go_upto_region 10 with fail;refine wp_region_any (by kernel_rfl) ?_;change wpAny _ _ _ _ _ _ _ w2.drew;rw[←hZ];clear hZ c2;refine wpAny_take (i:=0) (v:=.pointer (some ⟨b,0,none⟩)) rfl (by kernel_rfl) (by kernel_rfl) (by kernel_rfl) (fun _ _ _ h=>h) (Or.inl ⟨by kernel_rfl,fun w'=>by go_simp⟩) ?_;refine wpAny_take (i:=1) (v:=.pointer (some ⟨b,0,none⟩)) rfl (by kernel_rfl) (by kernel_rfl) (by kernel_rfl) (fun _ _ _ h=>h) (Or.inl ⟨by kernel_rfl,fun w'=>by go_simp⟩) ?_;refine wpAny_take (i:=2) (v:=.pointer (some ⟨b,0,none⟩)) rfl (by kernel_rfl) (by kernel_rfl) (by kernel_rfl) (fun _ _ _ h=>h) (Or.inl ⟨by kernel_rfl,fun w'=>by go_simp⟩) ?_;refine wpAny_take (i:=3) (v:=.pointer (some ⟨b,0,none⟩)) rfl (by kernel_rfl) (by kernel_rfl) (by kernel_rfl) (fun _ _ _ h=>h) (Or.inl ⟨by kernel_rfl,fun w'=>by go_simp⟩) ?_;refine wpAny_take (i:=5) (v:=.pointer (some ⟨b,0,none⟩)) rfl (by kernel_rfl) (by kernel_rfl) (by kernel_rfl) (fun _ _ _ h=>h) (Or.inl ⟨by kernel_rfl,fun w'=>by go_simp⟩) ?_;refine wpAny_take (i:=6) (v:=.pointer (some ⟨b,0,none⟩)) rfl (by kernel_rfl) (by kernel_rfl) (by kernel_rfl) (fun _ _ _ h=>h) (Or.inl ⟨by kernel_rfl,fun w'=>by go_simp⟩) ?_;refine wpAny_take (i:=7) (v:=.pointer (some ⟨b,8,none⟩)) rfl (by kernel_rfl) (by kernel_rfl) (by kernel_rfl) (fun _ _ _ h=>h) (Or.inl ⟨by kernel_rfl,fun w'=>by go_simp⟩) ?_;refine Xoo (i:=4) (k:=8) (by kernel_rfl) ?_ ?_;·refine Xbr rfl rfl (Xaj (ty:=191) (x:=.tmp 51) (ad:=⟨b,0,none⟩) rfl (by kernel_rfl) (LS.o _ HZ.o)) ?_;refine Xbc (i:=8) (by kernel_rfl) ?_;refine Xbr rfl rfl (Xaj (ty:=184) (x:=.tmp 55) (ad:=⟨b,8,none⟩) rfl (by kernel_rfl) (LB.o _ HZ.o)) ?_;refine Xbc (i:=9) (by kernel_rfl) ?_;refine Xao (f:=134) (args:=#[.agg v2]) rfl rfl (by kernel_rfl) ?_;refine P.o.mono ?_;rintro e w3 ⟨rfl,g⟩;have P3:=Hd (J.o w3 g);have B3:=Hd g;have H3:=Hd (HZ.o.below g);refine⟨_,rfl,?_⟩;clear g;refine Xbc (i:=10) (by kernel_rfl) ?_;refine Xao (f:=133) (args:=#[.agg v1,.agg v3]) rfl rfl (by kernel_rfl) ?_;refine P3.o.mono ?_;rintro e w4 ⟨rfl,B⟩;have s:=bg B3.o B;obtain⟨V,W,X⟩:=z.o w4 s;obtain⟨w5,C⟩:=xq (w4.setRow b (hC (Xcl d c)));rw[←C] at V W X;have G1:=Hd V;have G2:=Hd W;have G3:=Hd X;refine⟨_,rfl,?_⟩;clear V W X C B P3 z B3 s H3;refine Xbc (i:=11) (by kernel_rfl) ?_;refine Xbr (v:=.pointer (some ⟨b,0,none⟩)) rfl rfl (by kernel_rfl) ?_;refine Xbc (i:=12) (by kernel_rfl) ?_;refine Xbr (v:=.pointer (some ⟨b,0,none⟩)) rfl rfl (by kernel_rfl) ?_;refine Xbc (i:=13) (by kernel_rfl) ?_;refine Xa1 rfl rfl (Xak (t:=191) (x:=.tmp 60) (y:=.tmp 58) (ad:=⟨b,0,none⟩) (u:=.agg v4) rfl (by kernel_rfl) (by kernel_rfl) G1.o) ?_;refine wpAny_done (by kernel_rfl) ?_ _;go_simp;refine‹∀(a:Act) (w_1:World),_→_› _ _ ?_;go_wp2_with fail;go_roundg (gk-n);exact⟨Xcl d c,c.drop n,oa,K-n,gk-n,rfl,rfl,by omega,by omega,A,aP,G2,Hd (aI.o w5 (aC.o.trans G3.o)),aH,Hd (by rw[Q.o];exact aG.o),G,Hd (F2.o.trans G3.o)⟩;omega
   refine Xbr rfl rfl (Xaj (ty:=184) (x:=.tmp 55) (ad:=⟨b,8,none⟩) rfl (by kernel_rfl) (LB.o _ HZ.o)) ?_;refine Xoo (i:=4) (k:=9) (by kernel_rfl) ?_ ?_;·refine Xbr rfl rfl (Xaj (ty:=191) (x:=.tmp 51) (ad:=⟨b,0,none⟩) rfl (by kernel_rfl) (LS.o _ HZ.o)) ?_;refine Xbc (i:=9) (by kernel_rfl) ?_;refine Xao (f:=134) (args:=#[.agg v2]) rfl rfl (by kernel_rfl) ?_;refine P.o.mono ?_;rintro e w3 ⟨rfl,g⟩;have P3:=Hd (J.o w3 g);have B3:=Hd g;have H3:=Hd (HZ.o.below g);refine⟨_,rfl,?_⟩;clear g;refine Xbc (i:=10) (by kernel_rfl) ?_;refine Xao (f:=133) (args:=#[.agg v1,.agg v3]) rfl rfl (by kernel_rfl) ?_;refine P3.o.mono ?_;rintro e w4 ⟨rfl,B⟩;have s:=bg B3.o B;obtain⟨V,W,X⟩:=z.o w4 s;obtain⟨w5,C⟩:=xq (w4.setRow b (hC (Xcl d c)));rw[←C] at V W X;have G1:=Hd V;have G2:=Hd W;have G3:=Hd X;refine⟨_,rfl,?_⟩;clear V W X C B P3 z B3 s H3;refine Xbc (i:=11) (by kernel_rfl) ?_;refine Xbr (v:=.pointer (some ⟨b,0,none⟩)) rfl rfl (by kernel_rfl) ?_;refine Xbc (i:=12) (by kernel_rfl) ?_;refine Xbr (v:=.pointer (some ⟨b,0,none⟩)) rfl rfl (by kernel_rfl) ?_;refine Xbc (i:=13) (by kernel_rfl) ?_;refine Xa1 rfl rfl (Xak (t:=191) (x:=.tmp 60) (y:=.tmp 58) (ad:=⟨b,0,none⟩) (u:=.agg v4) rfl (by kernel_rfl) (by kernel_rfl) G1.o) ?_;refine wpAny_done (by kernel_rfl) ?_ _;go_simp;refine‹∀(a:Act) (w_1:World),_→_› _ _ ?_;go_wp2_with fail;go_roundg (gk-n);exact⟨Xcl d c,c.drop n,oa,K-n,gk-n,rfl,rfl,by omega,by omega,A,aP,G2,Hd (aI.o w5 (aC.o.trans G3.o)),aH,Hd (by rw[Q.o];exact aG.o),G,Hd (F2.o.trans G3.o)⟩;omega
   refine Xao (f:=134) (args:=#[.agg v2]) rfl rfl (by kernel_rfl) ?_;refine P.o.mono ?_;rintro e w3 ⟨rfl,g⟩;have P3:=Hd (J.o w3 g);have B3:=Hd g;have H3:=Hd (HZ.o.below g);refine⟨_,rfl,?_⟩;clear g;refine Xbc (i:=4) (by kernel_rfl) ?_;refine Xbr rfl rfl (Xaj (ty:=191) (x:=.tmp 51) (ad:=⟨b,0,none⟩) rfl (by kernel_rfl) (LS.o _ H3.o)) ?_;refine Xbc (i:=10) (by kernel_rfl) ?_;refine Xao (f:=133) (args:=#[.agg v1,.agg v3]) rfl rfl (by kernel_rfl) ?_;refine P3.o.mono ?_;rintro e w4 ⟨rfl,B⟩;have s:=bg B3.o B;obtain⟨V,W,X⟩:=z.o w4 s;obtain⟨w5,C⟩:=xq (w4.setRow b (hC (Xcl d c)));rw[←C] at V W X;have G1:=Hd V;have G2:=Hd W;have G3:=Hd X;refine⟨_,rfl,?_⟩;clear V W X C B P3 z B3 s H3;refine Xbc (i:=11) (by kernel_rfl) ?_;refine Xbr (v:=.pointer (some ⟨b,0,none⟩)) rfl rfl (by kernel_rfl) ?_;refine Xbc (i:=12) (by kernel_rfl) ?_;refine Xbr (v:=.pointer (some ⟨b,0,none⟩)) rfl rfl (by kernel_rfl) ?_;refine Xbc (i:=13) (by kernel_rfl) ?_;refine Xa1 rfl rfl (Xak (t:=191) (x:=.tmp 60) (y:=.tmp 58) (ad:=⟨b,0,none⟩) (u:=.agg v4) rfl (by kernel_rfl) (by kernel_rfl) G1.o) ?_;refine wpAny_done (by kernel_rfl) ?_ _;go_simp;refine‹∀(a:Act) (w_1:World),_→_› _ _ ?_;go_wp2_with fail;go_roundg (gk-n);exact⟨Xcl d c,c.drop n,oa,K-n,gk-n,rfl,rfl,by omega,by omega,A,aP,G2,Hd (aI.o w5 (aC.o.trans G3.o)),aH,Hd (by rw[Q.o];exact aG.o),G,Hd (F2.o.trans G3.o)⟩;omega
  have jm:(M:Int).tmod 64=((M%64:Nat):Int):=by rw[Int.tmod_eq_emod_of_nonneg (by omega)];omega
  obtain⟨r,hr⟩:=xq (M%64);rw[←hr] at jm e64;have hz:((r:Int)==0)=false:=Xar (by omega);have S2:Hid (Xcl d c=q):=Hd (by rw[H.o,qN (by rw[←hr];exact e64),aE.o,←bE.o,aE.o]);clear hr;go_wp2_with fail;go_roundg (gk-n);exact⟨q,c.drop n,oa,K-n,gk-n,rfl,rfl,by omega,by omega,A,R,H2,Hd (aI.o w2 aC.o),aH,Hd (by rw[aE.o];exact aG.o),Hd (by rw[G.o,S2.o]),F2⟩;omega
 obtain rfl:gk=0:=by omega
 have bN:c=[]:=List.eq_nil_of_length_eq_zero E.o.symm;have z:Hid (wrF h l=d):=Hd (by rw[aL.o,bN];rfl);go_wp2_with fail;go_ret;exact⟨⟨_,rfl⟩,by rw[z.o];exact bA.o,Fc.o⟩
theorem Yec {w:World}{B n cap:Nat}{a:Option Addr}{xs:List Nat}(h:w.ownsRow B 5 1 (.slice a n cap) n (xs.map U))(hx:∀x∈xs,x<256):Rd w a xs:=by
 have b:=h.1;rw[Nat.mul_one,List.length_map] at b;rcases h.2 with⟨e,_⟩|⟨g,c,cur,e,_,hg,_,_,_,ht⟩;·cases e;exact⟨hx,fun h0=>by omega⟩
 cases e;refine⟨hx,fun h0=>⟨g,0,rfl,zY hg,fun i hi=>?_⟩⟩;rw[cell_of_row w g (0+i) _ _ _ hg,Nat.zero_add];have:=congrArg (fun z=>z[i]?) ht;simp only[List.getElem?_map,List.getElem?_eq_getElem hi,Option.map_some] at this;rw[←this,Nat.mul_one,List.getElem?_take_of_lt (by omega)];simp
def Yj3 (len k:Nat):Nat:=(8*len%18446744073709551616)/2^(56-8*k)%256
def Xln (len k:Nat):List Nat:=128::List.replicate (Yhd len) 0++(List.range k).map (Yj3 len)
theorem Xpu (len k:Nat):Xln len (k+1)=Xln len k++[Yj3 len k]:=by simp[Xln,List.range_succ]
theorem Xpv (len:Nat):Xln len 8=Xrv len:=rfl
theorem Xru (len:Nat):∀x∈Xrv len,x<256:=by
 intro x a;rw[←Xpv] at a;unfold Xln Yj3 at a;simp only[List.cons_append,List.mem_cons,List.mem_append,List.mem_replicate,List.mem_map] at a;rcases a with rfl|⟨_,rfl⟩|⟨k,_,rfl⟩;·decide
 ·decide
 exact Nat.mod_lt _ (by decide)
theorem Xua (len:Nat):(Xrv len).length≤100:=by rw[←Xpv];simp[Xln,Yhd];omega
theorem OW.slice {B:Nat}{xs:List Nat}{v:Value}{w:World}(h:OW B xs v w)(h0:0<xs.length):∃g c,v=.slice (some ⟨g,0,none⟩) xs.length c∧xs.length≤c∧c≤maxLen∧B≤g∧g<w.heap.size:=by
 rcases h.2 with⟨_,e⟩|⟨g,c,cur,e,hb,hg,hc,hm,_,_⟩;·omega
 exact⟨g,c,e,hc,hm,hb,zY hg⟩
theorem Yhk:hC hs0=#[.int .u32 0,.int .u32 0,.int .u32 0,.int .u32 0,.int .u32 0,.int .u32 0,.int .u32 0,.int .u32 0,.int .u8 0,.int .u8 0,.int .u8 0,.int .u8 0,.int .u8 0,.int .u8 0,.int .u8 0,.int .u8 0,.int .u8 0,.int .u8 0,.int .u8 0,.int .u8 0,.int .u8 0,.int .u8 0,.int .u8 0,.int .u8 0,.int .u8 0,.int .u8 0,.int .u8 0,.int .u8 0,.int .u8 0,.int .u8 0,.int .u8 0,.int .u8 0,.int .u8 0,.int .u8 0,.int .u8 0,.int .u8 0,.int .u8 0,.int .u8 0,.int .u8 0,.int .u8 0,.int .u8 0,.int .u8 0,.int .u8 0,.int .u8 0,.int .u8 0,.int .u8 0,.int .u8 0,.int .u8 0,.int .u8 0,.int .u8 0,.int .u8 0,.int .u8 0,.int .u8 0,.int .u8 0,.int .u8 0,.int .u8 0,.int .u8 0,.int .u8 0,.int .u8 0,.int .u8 0,.int .u8 0,.int .u8 0,.int .u8 0,.int .u8 0,.int .u8 0,.int .u8 0,.int .u8 0,.int .u8 0,.int .u8 0,.int .u8 0,.int .u8 0,.int .u8 0,.int .i64 0]:=by rfl
theorem Rd.onB {w w':World}{a:Option Addr}{l:List Nat}(h:Rd w a l)(hb:Bw w w'):Rd w' a l:=by refine⟨h.lt,fun h0=>?_⟩;obtain⟨b,off,rfl,c,d⟩:=h.at_ h0;exact⟨b,off,rfl,Nat.lt_of_lt_of_le c hb.size,fun i hi=>(hb.cell (by exact c)).trans (d i hi)⟩
theorem Yhc (n:Nat):Xln n 0=128::List.replicate (Yhd n) 0:=by simp[Xln]
theorem Xfu (w:World)(b:Nat)(cs:Array Value):Fr1 b w (w.setRow b cs):=⟨rfl,rfl,rfl,by simp[World.setRow],fun k hk hne=>setRow_other w b k cs hne⟩
theorem Xpm (k:Nat):128::List.replicate (k+1) 0=(128::List.replicate k 0)++[0]:=by rw[List.replicate_succ'];rfl
theorem Yfh (w:World)(b:Nat)(h:Hs)(hk:HK w b h)(ho:h.Ok)(hl:h.len≤100000000)(hE:Env w):zJ 86 #[.pointer (some ⟨b,0,none⟩)] w (.agg (idA (smF h))):=by
 obtain⟨i0,aI,aN,aO,aP⟩:=info_parts Xgl;have hb:=hk.lt;obtain⟨zs,V⟩:=xq (idA (List.replicate 32 0));have Z0:Hid (zs=#[.int .u8 0,.int .u8 0,.int .u8 0,.int .u8 0,.int .u8 0,.int .u8 0,.int .u8 0,.int .u8 0,.int .u8 0,.int .u8 0,.int .u8 0,.int .u8 0,.int .u8 0,.int .u8 0,.int .u8 0,.int .u8 0,.int .u8 0,.int .u8 0,.int .u8 0,.int .u8 0,.int .u8 0,.int .u8 0,.int .u8 0,.int .u8 0,.int .u8 0,.int .u8 0,.int .u8 0,.int .u8 0,.int .u8 0,.int .u8 0,.int .u8 0,.int .u8 0]):=Hd (by rw[V];rfl);obtain⟨wA,E⟩:=xq (w.alloc (.cells zs 90));have BA:Hid (Bw w wA):=Hd (by rw[E];exact(zR _ _).alloc (zL _) _);have RA:Hid (IB wA w.heap.size 90 (List.replicate 32 0)):=Hd (by unfold IB;rw[E,←V];exact heap_alloc_last w _);have SA:wA.heap.size=w.heap.size+1:=by rw[E];simp
 have aB:Hid (HK wA b h):=Hd (hk.below BA.o);have WA:=Hd E;obtain⟨n,hn⟩:=xq h.len;have HN:=Hd hn;rw[←hn] at hl;have X:=Hd ho;have HE:=Hd hE;clear E V hk hn ho hE;go_enter func86,ntmps86;go_upto_region 3 with fail;have N:=WA.o;rw[Z0.o] at N;rw[←N];clear N WA;have x:=Hd SA;go_wp2_with fail;have O1:Hid (OW (w.heap.size+1) [128] (.slice (some ⟨w.heap.size+1,0,none⟩) 1 1) (wA.alloc (.cells #[.int .u8 128] 5))):=Hd (by have:=heap_alloc_last wA (.cells #[.int .u8 128] 5);rw[x.o] at this;exact⟨rfl,.inr ⟨w.heap.size+1,1,#[.int .u8 128],rfl,zL _,this,zL _,by decide,rfl,rfl⟩⟩);have B1:Hid (Below (w.heap.size+1) wA (wA.alloc (.cells #[.int .u8 128] 5))):=Hd ((zR _ _).alloc (by rw[x.o];exact zL _) _);obtain⟨P,hP⟩:=xq (Yhd n);have Q:P=(119-n%64)%64:=hP;go_loopg [3] P (fun k v wr=>∃j:Nat,j≤P∧k=P-j∧Hid (OW (w.heap.size+1) (128::List.replicate j 0) v wr)∧Hid (Below (w.heap.size+1) wA wr));exact⟨0,by omega,rfl,O1,B1⟩;clear O1 B1;obtain⟨j,hj,rfl,u,p⟩:=hrel;have aT:wr.cell? ⟨b,72,none⟩=some (.int .i64 (n:Int)):=by rw[HN.o];exact HK.len ((p.o.block b (by omega)).trans aB.o) X.o.blk.len
 obtain⟨g,c,rfl,R,bE,bC,bF⟩:=u.o.slice (by simp);obtain⟨m,hm⟩:=xq (j+1);have D:(128::List.replicate j 0:List Nat).length=m:=by simp[hm]
 rw[D] at u R⊢;have T:w.heap.size+1≤wr.heap.size:=by have:=p.o.size;omega
 obtain⟨r,hr⟩:=xq ((n+m)%64);have jt:((n:Int)+(m:Int)).tmod 64=(r:Int):=by rw[Int.tmod_eq_emod_of_nonneg (by omega)];omega
 have wN:IntKind.i64.wrap ((n:Int)+(m:Int))=(n:Int)+(m:Int):=IntWalk.i64_in _ (by omega);have a:Hid (wr.ownsRow (w.heap.size+1) 5 1 (.slice (some ⟨g,0,none⟩) m c) m ((128::List.replicate j 0:List Nat).map U)):=Hd (by have:=u.o;unfold OW at this;rw[D] at this;exact this);have aX:P≤63:=by omega
 have aZ:m≤64:=by omega
 obtain⟨xs,G⟩:=xq ((128::List.replicate j 0:List Nat));by_cases hlt:j<P
 ·have bH:((r:Int) !=56)=true:=by
   have:r≠56:=by omega
   simpa using(by omega:¬((r:Int)=56))
  have d:Hid (∀(v':Value) (w1:World),w1.ownsRow (w.heap.size+1) 5 1 v' (m+1) (xs.map U++[.int .u8 0])→(wr.alloc (.cells #[.int .u8 0] 5)).grownBy w1 (Value.slice (some ⟨g,0,none⟩) m c).ownBlock→OW (w.heap.size+1) (128::List.replicate (j+1) 0) v' w1∧Below (w.heap.size+1) wA w1):=Hd (fun v' w1 J h2=>⟨by rw[Xpm,←G];rw[G] at J⊢;rw[←D] at J;exact OW.app (ys:=[0]) rfl rfl J,Xey p.o T (zL _) u.o h2⟩);rw[←G] at a;have HP:=Hd Q;clear hr hm Q hP D SA G R;go_wp2_with (at_builtin;refine wpList_append_own _ rfl _ _ 82 rfl (w.heap.size+1) 5 i0 (.int .u8 0) 1 1 underlying82 aI aN aO aP rfl (by decide) _ _ _ rfl (a.o.alloc _) ⟨wr.heap.size,0,none⟩ 1 1 [.int .u8 0] rfl rfl (World.news_of_block (cs:=#[.int .u8 0]) (t:=5) (fr:=(0,0)) (zN wr _)) (by simp[Value.oneCell']) (by unfold maxLen;omega) (by omega) (by simp;omega) ?_;intro v' w3 l f _)
  have F:=Hd (d.o _ w3 l f);clear l f d;go_wp2_with fail;go_roundg (P-(j+1));exact⟨j+1,by omega,rfl,Hd F.o.1,Hd F.o.2⟩;omega
 obtain rfl:j=P:=by omega
 have he:((r:Int) !=56)=false:=by
  have:r=56:=by omega
  rw[this];rfl
 have O2:Hid (OW (w.heap.size+1) (Xln n 0) (.slice (some ⟨g,0,none⟩) m c) wr):=Hd (by rw[Yhc,←hP];exact u.o);have B2:=Hd p.o;obtain⟨C,hC⟩:=xq (8*n);have eC:(8*(n:Int))%18446744073709551616=(C:Int):=by omega
 have bB:(8*(n:Int))=(C:Int):=by omega
 have bD:C≤800000000:=by omega
 have bJ:(n:Int)%18446744073709551616=(n:Int):=by omega
 have PL:=Hd (Xua n);have aR:=Hd hC;have s:Hid (∀q,(Xln n q).length=1+j+q):=Hd (fun q=>by unfold Xln;rw[←hP];simp;omega);clear hr hm Q hP D SA G a R u p hC;go_wp2_with fail;go_loopg [3,5,29] 8 (fun k v v5 i wq=>∃q:Nat,q≤8∧k=8-q∧i=.int .i64 (q:Int)∧Hid (OW (w.heap.size+1) (Xln n q) v wq)∧Hid (Below (w.heap.size+1) wA wq));exact⟨0,by omega,rfl,rfl,O2,B2⟩;clear O2 B2 aT he jt wN;obtain⟨q,hq,rfl,rfl,u,p⟩:=hrel;by_cases hq8:q<8
 ·have aV:∃g c,u3=.slice (some ⟨g,0,none⟩) (1+j+q) c:=by obtain⟨g,c,J,_⟩:=u.o.slice (by rw[s.o];omega);rw[s.o] at J;exact⟨g,c,J⟩
  obtain⟨O,c2,rfl⟩:=aV;obtain⟨r2,aL⟩:=xq (56-8*q);have bA:(56:Int)-8*(q:Int)=(r2:Int):=by omega
  obtain⟨y,hy⟩:=xq (Yj3 n q);have YI:Hid (((y:Nat):Int)=(C:Int)/2^r2%256):=Hd (by rw[hy,Yj3,←aR.o,←aL,show C%18446744073709551616=C from Nat.mod_eq_of_lt (by omega),Int.natCast_emod,Int.natCast_ediv,Int.natCast_pow];rfl);have a:Hid (wr.ownsRow (w.heap.size+1) 5 1 (.slice (some ⟨O,0,none⟩) (1+j+q) c2) (1+j+q) ((Xln n q).map U)):=Hd (by have:=u.o;unfold OW at this;rw[s.o] at this;exact this);have T:w.heap.size+1≤wr.heap.size:=by have:=p.o.size;have:=x.o;omega
  have d:Hid (∀(v':Value) (w1:World) (z:Value),z=.int .u8 (y:Int)→w1.ownsRow (w.heap.size+1) 5 1 v' ((1+j+q)+1) ((Xln n q).map U++[z])→(wr.alloc (.cells #[z] 5)).grownBy w1 (Value.slice (some ⟨O,0,none⟩) (1+j+q) c2).ownBlock→OW (w.heap.size+1) (Xln n (q+1)) v' w1∧Below (w.heap.size+1) wA w1):=Hd (fun v' w1 z hz J h2=>⟨by subst hz;rw[Xpu,←hy];rw[←s.o q] at J;exact OW.app (ys:=[y]) rfl rfl J,Xey p.o T (zL _) u.o h2⟩);obtain⟨ps,aK⟩:=xq ((Xln n q).map U);rw[←aK] at a d;obtain⟨m2,aJ⟩:=xq (1+j+q);rw[←aJ] at a d⊢;have bG:m2≤100:=by omega
  have aU:Hid (Value.int .u8 ((C:Int)/2^r2%256)=.int .u8 (y:Int)):=Hd (by rw[YI.o]);clear aL hy aK aJ u p;go_wp2_with (at_builtin;refine wpList_append_own _ rfl _ _ 82 rfl (w.heap.size+1) 5 i0 (.int .u8 0) 1 1 underlying82 aI aN aO aP rfl (by decide) _ _ _ rfl (a.o.alloc _) ⟨wr.heap.size,0,none⟩ 1 1 [.int .u8 ((C:Int)/2^r2%256)] rfl rfl (World.news_of_block (cs:=#[.int .u8 ((C:Int)/2^r2%256)]) (t:=5) (fr:=(0,0)) (zN wr _)) (by simp[Value.oneCell']) (by unfold maxLen;omega) (by omega) (by simp;omega) ?_;intro v' w3 l f _)
  have F:=Hd (d.o _ w3 _ aU.o l f);clear l f d;go_wp2_with fail;go_roundg (8-(q+1));exact⟨q+1,by omega,rfl,by go_num,Hd F.o.1,Hd F.o.2⟩;omega
 obtain rfl:q=8:=by omega
 obtain⟨O,c2,rfl,L,aG,aW,aY⟩:=u.o.slice (by rw[s.o];omega);have a:=u.o;unfold OW at a;rw[s.o] at a L⊢;rw[Xpv] at a;have RD:Hid (Rd wr (some ⟨O,0,none⟩) (Xrv n)):=Hd (Yec a (Xru n));have aE:Hid ((Xrv n).length=1+j+8):=Hd (by rw[←Xpv];exact s.o 8);have aC:Hid (HK wr b h):=Hd ((p.o.block b (by have:=x.o;omega)).trans aB.o);have LD:=Hd (aC.o.all X.o.blk.len);have h9:=HE.o.size;have bI:w.heap.size+1≤wr.heap.size:=by have:=p.o.size;have:=x.o;omega
 obtain⟨Z,K⟩:=xq (wr.alloc (.cells (hC hs0) 193));have H4:HK Z wr.heap.size hs0:=by rw[K];exact heap_alloc_last wr _
 have I:Sv 193 ⟨wr.heap.size,0,none⟩ (.agg (hC h)) Z (Z.setRow wr.heap.size (hC h)):=run_storeVar_row Z wr.heap.size _ 193 _ _ H4 (by rw[Xkv X.o.blk.len];exact Xo7) (by rw[Xkv X.o.blk.len,Xkv (by simp[hs0])]) (Ymh h);obtain⟨M,A⟩:=xq (Z.setRow wr.heap.size (hC h));have H5:HK M wr.heap.size h:=by rw[A];exact setRow_heap Z _ _ _ _ _ H4
 have W:Bw wr M:=by rw[A,K];exact below_setRow ((zR _ _).alloc (zL _) _) (zL _) _
 have ST:Hid (Sv 193 ⟨wr.heap.size,0,none⟩ (.agg (hC h)) (wr.alloc (.cells #[.int .u32 0,.int .u32 0,.int .u32 0,.int .u32 0,.int .u32 0,.int .u32 0,.int .u32 0,.int .u32 0,.int .u8 0,.int .u8 0,.int .u8 0,.int .u8 0,.int .u8 0,.int .u8 0,.int .u8 0,.int .u8 0,.int .u8 0,.int .u8 0,.int .u8 0,.int .u8 0,.int .u8 0,.int .u8 0,.int .u8 0,.int .u8 0,.int .u8 0,.int .u8 0,.int .u8 0,.int .u8 0,.int .u8 0,.int .u8 0,.int .u8 0,.int .u8 0,.int .u8 0,.int .u8 0,.int .u8 0,.int .u8 0,.int .u8 0,.int .u8 0,.int .u8 0,.int .u8 0,.int .u8 0,.int .u8 0,.int .u8 0,.int .u8 0,.int .u8 0,.int .u8 0,.int .u8 0,.int .u8 0,.int .u8 0,.int .u8 0,.int .u8 0,.int .u8 0,.int .u8 0,.int .u8 0,.int .u8 0,.int .u8 0,.int .u8 0,.int .u8 0,.int .u8 0,.int .u8 0,.int .u8 0,.int .u8 0,.int .u8 0,.int .u8 0,.int .u8 0,.int .u8 0,.int .u8 0,.int .u8 0,.int .u8 0,.int .u8 0,.int .u8 0,.int .u8 0,.int .i64 0] 193)) M):=Hd (by rw[K] at I A;rw[Yhk] at I A;rw[A];exact I);have aF:Rd M (some ⟨O,0,none⟩) (Xrv n):=RD.o.onB W;have WR:=Hd (Xou M wr.heap.size h (some ⟨O,0,none⟩) c2 (Xrv n) H5 X.o aF (fun ad e _=>by cases e;show O≠wr.heap.size;omega) (by rw[←HN.o];have:=PL.o;omega) (by rw[aE.o];exact L) aG (HE.o.below ((BA.o.trans (p.o.mono (by omega))).trans (W.mono (by omega))) HE.o.size) (by omega));rw[aE.o] at WR;have aQ:Hid ((wrF h (Xrv n)).Ok):=Hd (Ygv X.o (Xru n));have R5:Hid (IB M w.heap.size 90 (List.replicate 32 0)):=Hd ((W.block w.heap.size (by omega)).trans ((p.o.block w.heap.size (by have:=x.o;omega)).trans RA.o));have aA:Hid (Bw w M):=Hd ((BA.o.trans (p.o.mono (by omega))).trans (W.mono (by omega)));have s5:w.heap.size<M.heap.size:=by have:=W.size;omega
 obtain⟨hv,aH⟩:=xq (hC h);rw[←aH] at LD ST;clear K A H4 I H5 W aF aH u p a RD aC;go_wp2_with (first
  |((with_reducible refine Xab 193 rfl _ rfl ?_);refine⟨_,_,rfl,LD.o,?_⟩)
  |((with_reducible refine Xaa 193 rfl _ _ rfl ?_);refine⟨_,_,_,rfl,rfl,ST.o,?_⟩))
 refine WR.o.mono ?_;rintro e w6 ⟨⟨v6,rfl⟩,h6,f6⟩;have L6:=Hd h6.st;have DG:=Hd (Xxc w6 aQ.o.st);have R6:IB w6 w.heap.size 90 (List.replicate 32 0):=(f6.other w.heap.size s5 (by omega)).trans R5.o;have d:Hid (∀H,Bw w6 H→Sv 90 ⟨w.heap.size,0,none⟩ (.agg (idA (smF h))) H (H.setRow w.heap.size (idA (smF h)))∧IB (H.setRow w.heap.size (idA (smF h))) w.heap.size 90 (smF h)∧Bw w (H.setRow w.heap.size (idA (smF h)))):=Hd (fun H B=>by have R7:=R6.below B;have aS:Bw w w6:=aA.o.trans (f6.below aA.o.size (by omega));have sl:(smF h).length=32:=Xbm _;exact⟨run_storeVar_row H w.heap.size _ 90 _ _ R7 (by rw[Xaf,sl];exact Xfm) (by rw[Xaf,Xaf,sl];simp) (Xeh _),setRow_heap H _ _ _ _ _ R7,below_setRow (bg aS B) (zL _) _⟩);have SM:Hid (idA (dgF (wrF h (Xrv n)).st)=idA (smF h)):=Hd (by rw[HN.o];rfl);rw[SM.o] at DG;obtain⟨v7,aM⟩:=xq (wC (wrF h (Xrv n)).st);rw[←aM] at L6 DG;have SZ:Hid ((prog.info? 90).map (·.size)=some (idA (smF h)).size):=Hd (by rw[Xaf,show(smF h).length=32 from Xbm _];exact Xfm);obtain⟨rs,S⟩:=xq (idA (smF h));rw[←S] at DG d SZ;have aD:=Hd S;clear aM S h6 f6 R6 WR ST LD SM;go_wp2_with ((with_reducible refine Xab 191 rfl _ rfl ?_);refine⟨_,_,rfl,L6.o,?_⟩)
 refine DG.o.mono ?_;rintro e H ⟨rfl,B⟩;obtain⟨f0,Y,f2⟩:=d.o H B;have F0:=Hd f0;have F1:=Hd Y;have F2:=Hd f2;clear f0 Y f2 B d DG L6;go_wp2_with ((with_reducible refine Xaa 90 rfl _ _ rfl ?_);refine⟨_,_,_,rfl,rfl,F0.o,?_⟩)
 have Y:=F1.o;unfold IB at Y;rw[←aD.o] at Y;exact zP (results_cell_row results86 _ _ w.heap.size _ _ _ _ rfl Y underlying90 rfl SZ.o) rfl ⟨by rw[aD.o],F2.o⟩
theorem Yi5 (w:World):Calls prog 84 #[] w fun e w'=>e=.returned (.pointer (some ⟨w.heap.size,0,none⟩))∧w'=w.alloc (.cells (hC hs0) 193):=by rw[Yhk];go_enter func84,ntmps84;go_wp2_with fail;go_ret;exact⟨rfl,rfl⟩
theorem Xyy (w:World)(a:Option Addr)(cap:Nat)(l:List Nat)(hr:Rd w a l)(hl:l.length≤10000000)(hcap:l.length≤cap)(hcm:cap≤maxLen)(hE:Env w):zJ 42 #[.slice a l.length cap] w (.agg (idA (Xfn l))):=by
 obtain⟨R,n⟩:=xq (idA (List.replicate 32 0));have Y:Hid (R=#[.int .u8 0,.int .u8 0,.int .u8 0,.int .u8 0,.int .u8 0,.int .u8 0,.int .u8 0,.int .u8 0,.int .u8 0,.int .u8 0,.int .u8 0,.int .u8 0,.int .u8 0,.int .u8 0,.int .u8 0,.int .u8 0,.int .u8 0,.int .u8 0,.int .u8 0,.int .u8 0,.int .u8 0,.int .u8 0,.int .u8 0,.int .u8 0,.int .u8 0,.int .u8 0,.int .u8 0,.int .u8 0,.int .u8 0,.int .u8 0,.int .u8 0,.int .u8 0]):=Hd (by rw[n];rfl);obtain⟨wA,d⟩:=xq (w.alloc (.cells R 90));have E:Bw w wA:=by rw[d];exact(zR _ _).alloc (zL _) _
 have J:IB wA w.heap.size 90 (List.replicate 32 0):=by unfold IB;rw[d,←n];exact heap_alloc_last w _
 have K:wA.heap.size=w.heap.size+1:=by rw[d];simp
 have h9:=hE.size;have B:=Hd (Yi5 wA);obtain⟨w1,i⟩:=xq (wA.alloc (.cells (hC hs0) 193));rw[←i] at B;have v:Bw wA w1:=by rw[i];exact(zR _ _).alloc (zL _) _
 have F:HK w1 wA.heap.size hs0:=by unfold HK;rw[i];exact heap_alloc_last wA _
 have G:=J.below v;have g:Bw w w1:=bg E v;have u:Rd w1 a l:=hr.onB g;have x:=Hd (Xou w1 wA.heap.size hs0 a cap l F Yhj u (fun ad e h0=>by obtain⟨b,off,Z,hb,_⟩:=hr.at_ h0;rw[Z] at e;cases e;show b≠_;omega) (by show 0+_≤_;omega) hcap hcm (hE.on g) (by omega));have X:Hid ((wrF hs0 l).Ok):=Hd (Ygv Yhj hr.lt);have W:Hid ((wrF hs0 l).len≤100000000):=Hd (by show(wrN l.length _ l).len≤_;rw[Xx8 _ _ _ (zL _)];show 0+_≤_;omega);have s1:w.heap.size<w1.heap.size:=by have:=v.size;omega
 have z:=Hd G;have r:=Hd g;have V:=Hd hE;have t:=Hd d;have C:=Hd K;obtain⟨L,P⟩:=xq l.length;rw[←P] at x⊢;clear d i n E J v F G g u hr hl hcap hcm hE P;go_enter func42,ntmps42;go_upto_region 1 with fail;have k:=t.o;rw[Y.o] at k;rw[←k];clear k t;go_wp2_with fail;refine B.o.mono ?_;rintro e wx ⟨rfl,rfl⟩;clear B;rw[C.o] at x⊢;clear K;go_wp2_with fail;refine x.o.mono ?_;rintro e y ⟨⟨v2,rfl⟩,O,q⟩;have m:Bw w y:=r.o.trans (q.below r.o.size (Nat.le_succ _));have D:=Hd (Yfh y (w.heap.size+1) _ O X.o W.o (V.o.on m));have H:IB y w.heap.size 90 (List.replicate 32 0):=(q.other w.heap.size s1 (by omega)).trans z.o;have j:Hid (∀f,Bw y f→Sv 90 ⟨w.heap.size,0,none⟩ (.agg (idA (smF (wrF hs0 l)))) f (f.setRow w.heap.size (idA (smF (wrF hs0 l))))∧IB (f.setRow w.heap.size (idA (smF (wrF hs0 l)))) w.heap.size 90 (smF (wrF hs0 l))∧Bw w (f.setRow w.heap.size (idA (smF (wrF hs0 l))))):=Hd (fun f c=>by have I:=H.below c;have Q:(smF (wrF hs0 l)).length=32:=Xbm _;exact⟨run_storeVar_row f w.heap.size _ 90 _ _ I (by rw[Xaf,Q];exact Xfm) (by rw[Xaf,Xaf,Q];simp) (Xeh _),setRow_heap f _ _ _ _ _ I,below_setRow (bg m c) (zL _) _⟩);have M:Hid ((prog.info? 90).map (·.size)=some (idA (smF (wrF hs0 l))).size):=Hd (by rw[Xaf,show(smF (wrF hs0 l)).length=32 from Xbm _];exact Xfm);obtain⟨rs,h⟩:=xq (idA (smF (wrF hs0 l)));have A:Hid (idA (Xfn l)=rs):=Hd (by rw[h];rfl);have s:=Hd h;rw[←h] at D j M;clear h O q H x m;go_wp2_with fail;refine D.o.mono ?_;rintro e f ⟨rfl,c⟩;obtain⟨N,p,q⟩:=j.o f c;have S:=Hd N;have T:=Hd p;have U:=Hd q;clear N p q c j D;go_wp2_with ((with_reducible refine Xaa 90 rfl _ _ rfl ?_);refine⟨_,_,_,rfl,rfl,S.o,?_⟩)
 have p:=T.o;unfold IB at p;rw[←s.o] at p;exact zP (results_cell_row results42 _ _ w.heap.size _ _ _ _ rfl p underlying90 rfl M.o) rfl ⟨by rw[A.o],U.o⟩
theorem Yns:liesAt prog prog.depth 84 (2/prog.cellsOf 84) 0 84 1=true:=by kernel_rfl
structure BD (w:World) (b:Nat) (xs:List Nat) (wr:World):Prop where
 bd:∃cs v,cs.size=2∧Bd wr w.heap.size b 0 84 cs v xs
 bel:Bw w wr
 le:w.heap.size≤b
structure KN (b:Nat) (w w':World):Prop where
 size:w.heap.size≤w'.heap.size
 same:∀k cs t fz,k≠b→t≠5→w.heap[k]?=some (.cells cs t fz)→w'.heap[k]?=some (.cells cs t fz)
theorem BD.write {w:World}{b:Nat}{xs:List Nat}{wr:World}(h:BD w b xs wr)(s:ByteArray)(hlen:xs.length+s.size≤140737488355328):Calls prog 40 #[.pointer (some ⟨b,0,none⟩),.string s] wr fun e w'=>e=.returned (.tuple #[.int .i64 (s.size:Int),.nilIface])∧BD w b (xs++bs s) w'∧KN b wr w':=by
 obtain⟨cs,v,m,n⟩:=h.bd;refine(Xjq wr w.heap.size b 0 84 cs v xs s n (by decide) h.bel.size (by rw[m];exact Yns) hlen).mono ?_;rintro e w' ⟨rfl,cs',v',i,l,_,p,c⟩;have hv:∀k,v.ownBlock=some k→w.heap.size≤k∧∃cs f,wr.heap[k]?=some (.cells cs 5 f):=by
  intro k a;rcases n.row.2 with⟨rfl,h0⟩|⟨g,cap,cur,f,rfl,hbg,hg,r⟩;·cases a
  simp[Value.ownBlock] at a;subst a;exact⟨hbg,cur,f,hg⟩
 refine⟨rfl,⟨⟨cs',v',by rw[l,m],i⟩,h.bel.trans (c.below h.bel.size h.le (fun k a=>(hv k a).1)),h.le⟩,c.size,?_⟩;intro k cs t f j q a;refine(c.other k (zY a) j (fun e=>?_)).trans a;obtain⟨_,cs',o,d⟩:=hv k e;rw[a] at d;cases d;exact q rfl
theorem BD.text {w:World}{b:Nat}{xs:List Nat}{wr:World}(h:BD w b xs wr)(hx:∀x∈xs,x<256)(hlen:xs.length≤140737488355328):Calls prog 41 #[.pointer (some ⟨b,0,none⟩)] wr fun e w'=>e=.returned (.string (Xax xs))∧Bw w w':=by
 obtain⟨cs,v,d,c⟩:=h.bd;refine(Xs1 wr w.heap.size b 0 84 cs v xs c (by decide) hx hlen).mono ?_;rintro e w' ⟨rfl,_,a⟩;refine⟨rfl,h.bel.trans (a.below h.bel.size h.le (fun k hk=>?_))⟩;rcases c.row.2 with⟨rfl,h0⟩|⟨g,cap,cur,fz,rfl,hbg,hg,r⟩;·cases hk
 simp[Value.ownBlock] at hk;subst hk;exact hbg
theorem BD.new {w0 w:World}(h:Bw w0 w):BD w0 w.heap.size [] (w.alloc (.cells #[.pointer none,.slice none 0 0] 84)):=
 ⟨⟨#[.pointer none,.slice none 0 0],.slice none 0 0,rfl,heap_alloc_last w _,.inl rfl,rfl,⟨rfl,.inl ⟨rfl,rfl⟩⟩⟩,h.alloc h.size _,h.size⟩
theorem Xz1 (w:World){l:List Nat}(hl:IdOk l):zJ 39 #[.agg (idA l)] w (.string (Xax (Xlh l))):=by
 obtain⟨cs,c⟩:=xq (idA l);have p:Hid (Bw w (w.alloc (.cells cs 26))):=Hd ((zR _ _).alloc (zL _) _);have Z:=Hd (Xf7 (w.alloc (.cells cs 26)) hl);have P:=Hd (fun w=>Xmf w hl);have i:Hid (∀w1,Below (w.alloc (.cells cs 26)).heap.size (w.alloc (.cells cs 26)) w1→Ld 26 ⟨w.heap.size,0,none⟩ w1 (.agg cs)):=Hd (fun w1 hb=>
  run_loadVar_row w1 w.heap.size _ 26 cs _ _ ((hb.block w.heap.size (by simp)).trans (heap_alloc_last w _)) underlying26 rfl (by rw[c,Xaf,hl.len];exact Xbh))
 rw[←c] at Z P⊢;have a:Hid (Xlh l=if l=zero32 then[] else Xfi l):=Hd rfl;obtain⟨q,k⟩:=xq (decide (l=zero32));rw[←k] at Z;have h:=Hd k;have d:=Hd (i.o _ (zR _ _));clear c hl k;go_enter func39,ntmps39;go_wp2_with ((with_reducible refine Xab 26 rfl _ rfl ?_);refine⟨_,_,rfl,d.o,?_⟩)
 refine Z.o.mono ?_;rintro e w1 ⟨rfl,b⟩;have f:=Hd (i.o _ b);have m:=bh p b;clear b i d Z;cases q
 ·have j:Hid (Xlh l=Xfi l):=Hd (by rw[a.o,qN (of_decide_eq_false h.o.symm)]);have n:=Hd (P.o w1);clear P h a;go_wp2_with ((with_reducible refine Xab 26 rfl _ rfl ?_);refine⟨_,_,rfl,f.o,?_⟩)
  refine n.o.mono ?_;rintro e s ⟨rfl,g⟩;have r:=bh m g;clear g n f;go_wp2_with fail;go_ret;exact⟨by rw[j.o];rfl,r.o⟩
 have j:Hid (Xlh l=[]):=Hd (by rw[a.o,qP (of_decide_eq_true h.o.symm)]);clear P h a;go_wp2_with fail;go_ret;exact⟨by rw[j.o];rfl,m.o⟩
theorem Xu3:∀(k u:Nat),∀c∈Xiw k u,48≤c∧c≤57
 |0,u,c,h=>by simp[Xiw] at h;omega
 |k+1,u,c,h=>by
  simp only[Xiw] at h;split at h;·simp at h;omega
  rw[List.mem_append] at h;rcases h with h|h;·exact Xu3 k _ c h
  simp at h;omega
theorem Xoc {n:Int}(h:0≤n):Xfh n=Xiw 20 n.toNat:=by unfold Xfh;rw[qN (by omega)]
theorem Xhp {n:Int}(h:0≤n):∀c∈Xfh n,48≤c∧c≤57:=by rw[Xoc h];exact Xu3 _ _
theorem Yhi:∀a<16,48≤hxl a∧hxl a≤102:=by decide
theorem Ya1 (a:Nat)(l:List Nat):Xb5 (a::l)=hxl (a/16)::hxl (a%16)::Xb5 l:=rfl
theorem Xjj:∀{l:List Nat},(∀x∈l,x<256)→∀c∈Xb5 l,48≤c∧c≤102
 |[],_,c,h=>by cases h
 |a::l,h1,c,h=>by
  rw[Ya1] at h;have b:=h1 a (List.mem_cons_self ..);rcases List.mem_cons.1 h with rfl|h;·exact Yhi _ (by omega)
  rcases List.mem_cons.1 h with rfl|h;·exact Yhi _ (by omega)
  exact Xjj (fun x hx=>h1 x (List.mem_cons_of_mem _ hx)) c h
theorem Xn0 {l:List Nat}(hl:∀x∈l,x<256):∀c∈Xfi l,48≤c∧c≤104+11:=by
 intro c h;unfold Xfi sHash at h;rw[List.mem_append,List.mem_cons] at h;rcases h with(rfl|h)|h;·omega
 ·have:=Xjj hl c h;omega
 simp only[List.mem_cons] at h;rcases h with rfl|rfl|rfl|rfl|rfl|rfl|h<;>first|omega|cases h
theorem Xup (s:Nat):∀(l:List (List Nat)) (c:Nat),c∈Xa9 [s] l→c=s∨∃x∈l,c∈x
 |[],c,h=>by cases h
 |[x],c,h=>.inr ⟨x,List.mem_cons_self ..,h⟩
 |x::y::r,c,h=>by
  simp only[Xa9] at h;rw[List.mem_append,List.mem_append] at h;rcases h with(h|h)|h;·exact .inr ⟨x,List.mem_cons_self ..,h⟩
  ·exact .inl (by simpa using h)
  rcases Xup s (y::r) c h with h|⟨z,b,a⟩;·exact .inl h
  exact .inr ⟨z,List.mem_cons_of_mem _ b,a⟩
theorem Xnc (s:Nat):∀(l:List Nat) (c:Nat),c∈l→c=s∨∃p∈spl s l,c∈p
 |x::t,c,h=>by
  simp only[spl];by_cases hx:x=s
  ·rw[qP hx];rcases List.mem_cons.1 h with rfl|h;·exact .inl hx
   rcases Xnc s t c h with h|⟨p,a,b⟩;·exact .inl h
   exact .inr ⟨p,List.mem_cons_of_mem _ a,b⟩
  rw[qN hx]
  cases hq:spl s t with
  |nil=>exact absurd hq (Xjz s t)
  |cons q r=>
   simp only[];rcases List.mem_cons.1 h with rfl|h;·exact .inr ⟨_,List.mem_cons_self ..,List.mem_cons_self ..⟩
   rcases Xnc s t c h with h|⟨p,a,b⟩;·exact .inl h
   rw[hq] at a;rcases List.mem_cons.1 a with rfl|a;·exact .inr ⟨_,List.mem_cons_self ..,List.mem_cons_of_mem _ b⟩
   exact .inr ⟨p,List.mem_cons_of_mem _ a,b⟩
theorem Xbu {a b:Nat}(h:fe a b=0):a=0∧b=0:=by unfold fe at h;split at h<;>omega
theorem Xe8 {p:Bool}{e:Nat}(he:e≠0)(h:eIf p e=0):p=false:=by unfold eIf at h;cases p<;>simp_all
theorem Ylv {c:Nat}(h:nmC c=true):c≠10∧c≠44∧c≠32:=by unfold nmC low dig at h;simp at h;omega
theorem Yew {x:List Nat}(h:Xbo x=0):∀c∈x,c≠10∧c≠44∧c≠32:=by
 intro c d;unfold Xbo at h;split at h;·cases h
 split at h;·cases h
 rename_i h2;rcases Xnc 46 x c d with rfl|⟨p,e,b⟩;·omega
 have a:Xej p=true:=by
  cases hq:Xej p;·exact absurd (List.any_eq_true.2 ⟨p,e,by rw[hq];rfl⟩) h2
  rfl
 unfold Xej at a;simp only[Bool.and_eq_true] at a;exact Ylv (List.all_eq_true.1 a.2 c b)
theorem Xp0 {f:List Nat→Nat}{d:Nat}(hd:d≠0):∀(l pre:List (List Nat)),Xc6 f d pre l=0→∀x∈l,f x=0
 |[],_,_,x,h=>by cases h
 |y::r,pre,h,x,a=>by
  simp only[Xc6] at h;split at h;·rename_i h1;exact absurd h h1
  rename_i h1;split at h;·exact absurd h hd
  rcases List.mem_cons.1 a with rfl|a;·simpa using h1
  exact Xp0 hd r _ h x a
theorem Ya6 {l:List (List Nat)}(h:Xco l=0):l≠[]∧∀x∈l,Xbo x=0:=by
 unfold Xco at h;split at h;·cases h
 rename_i h1;unfold Xcy at h;split at h;·cases h
 exact⟨h1,Xp0 (by decide) l [] h⟩
theorem Ydm {l:List Nat}(hw:Xb8 l=true)(h:10∈l.take (rn l)):cpt l=10:=by
 obtain⟨f,g,d⟩:=(Xcd l).1 hw;obtain⟨e,j⟩:=Xfq hw;obtain⟨i,hi,b⟩:=List.getElem_of_mem h;rw[List.length_take] at hi;have a:l.getD i 0=10:=by rw[List.getElem_take] at b;rw[List.getD_eq_getElem?_getD,List.getElem?_eq_getElem (by omega)];simpa using b
 by_cases h0:i=0
 ·subst h0;have c:rn l=1:=by rw[e,a];rfl
  unfold cpt;rw[c,qP (zL _),a];have:((l.take 1).drop 1)=[]:=by rw[List.drop_eq_nil_iff,List.length_take];omega
  rw[this];rfl
 have:=Ydk (d i (by omega) (by omega));omega
theorem Xuw:∀(n:Nat) (l:List Nat) (a:Nat),l.length≤n→vld l=true→((rsN l.length a l).all fun x=>gd false x.2)=true→10∉l
 |0,l,a,hl,_,_=>by have:l=[]:=List.length_eq_zero_iff.1 (by omega);rw[this];simp
 |n+1,l,a,hl,hv,hr=>by
  by_cases hn:l=[]
  ·rw[hn];simp
  rw[Xm9 hn] at hv;simp only[Bool.and_eq_true,decide_eq_true_eq] at hv;have b:=(Xrl l).1;rw[Xnp _ _ _ hv.1 (zL _)] at hr;simp only[List.all_cons,Bool.and_eq_true] at hr;have c:=Xuw n (l.drop (rn l)) _ (by rw[List.length_drop];omega) hv.2 hr.2;intro h;rw[←List.take_append_drop (rn l) l,List.mem_append] at h;rcases h with h|h;·rw[Ydm (rn_ne.1 hv.1) h] at hr;exact absurd hr.1 (by decide)
  exact c h
theorem Xtj {l:List Nat}{m:Nat}(h:Xfl l m=0):10∉l:=by
 unfold Xfl at h;have b:=Xe8 (by decide) (Xbu (Xbu h).2).1;have a:Xhz false l=true:=by simpa using b
 unfold Xhz at a;simp only[Bool.and_eq_true] at a;exact Xuw l.length l 0 (zL _) a.1 a.2
theorem Yay {c:Nat}(h:(hvl c).isSome=true):c≠10:=by rintro rfl;cases h
theorem Xjt:∀{l r:List Nat},Xlm l=some r→10∉l
 |[],_,_=>by simp
 |[_],_,h=>by cases h
 |a::b::t,r,h=>by
  simp only[Xlm] at h
  cases ha:hvl a with
  |none=>rw[ha] at h;cases h
  |some x=>
   cases hb:hvl b with
   |none=>rw[ha,hb] at h;cases h
   |some y=>
    cases hu:Xlm t with
    |none=>rw[ha,hb,hu] at h;cases h
    |some s=>have:=Xjt hu;have d:=Yay (c:=a) (by rw[ha];rfl);have e:=Yay (c:=b) (by rw[hb];rfl);simp only[List.mem_cons,not_or];exact⟨Ne.symm d,Ne.symm e,this⟩
theorem Yi6 {x i:List Nat}(h:Xlj x=some i):10∉x:=by
 unfold Xlj at h;split at h
 ·rename_i hc;obtain⟨f,c,d⟩:=hc;have e:=Xjt h;intro b;rw[←List.take_append_drop 1 x,List.mem_append] at b;rcases b with b|b
  ·cases x with
   |nil=>cases b
   |cons a t=>simp at b c;omega
  rw[←List.take_append_drop 64 (x.drop 1),List.mem_append] at b;rcases b with b|b;·exact e b
  rw[List.drop_drop,d] at b;exact absurd b (by decide)
 cases h
theorem Ykk {x i:List Nat}(h:Xfz x=some i):10∉x:=by
 unfold Xfz at h;split at h;·exact Xjt h
 cases h
theorem Yaw {f:List Nat→Option (List Nat)}:∀(l:List (List Nat)) (r:List (List Nat)),l.mapM f=some r→∀p∈l,∃i,f p=some i
 |[],_,_,p,h=>by cases h
 |y::t,r,h,p,a=>by
  rw[List.mapM_cons] at h
  cases hy:f y with
  |none=>rw[hy] at h;cases h
  |some z=>
   rw[hy] at h
   cases ht:t.mapM f with
   |none=>rw[ht] at h;cases h
   |some s=>
    rcases List.mem_cons.1 a with rfl|a;·exact⟨z,hy⟩
    exact Yaw t s ht p a
theorem Yey {x:List Nat}(h:Xc5 x=0):10∉x:=by
 unfold Xc5 at h
 cases hm:(spl 44 x).mapM Xfz with
 |none=>rw[hm] at h;cases h
 |some l=>
  intro c;rcases Xnc 44 x 10 c with h|⟨p,b,a⟩;·omega
  obtain⟨i,hi⟩:=Yaw _ _ hm p b;exact Ykk hi a
theorem Xym {x:List Nat}(h:Xhx x=0):10∉x:=by
 unfold Xhx at h
 cases hm:Xlj x with
 |none=>rw[hm] at h;cases h
 |some i=>exact Yi6 hm
theorem Xsc {x:List Nat}(h:Xih x=0):10∉x:=by
 unfold Xih at h;split at h;·rename_i h1;intro a;exact(Yew h1 10 a).1 rfl
 cases h
theorem Xry {a b:Nat}{x:List Nat}(h:Xfe a b x=0):10∉x:=by
 unfold Xfe at h
 cases hm:Xli x with
 |none=>rw[hm] at h;cases h
 |some n=>
  unfold Xli at hm;split at hm;·cases hm
  rename_i hc;intro d;have c:x.all dig=true:=by
   cases hq:x.all dig;·exact absurd (.inr (.inr (.inr hq))) hc
   rfl
  exact absurd (List.all_eq_true.1 c 10 d) (by decide)
theorem Yom:∀v,v<64→43≤al v:=by decide
theorem Yfu {l:List Nat}(h:∀x∈l,x<256):10∉Xi8 l:=by
 rw[Ybp l h];have b:=(Ydn l.length l (zL _) h).2.1;unfold Xq4;intro a;rw[List.mem_append] at a;rcases a with a|a;·obtain⟨v,hv,e⟩:=List.mem_map.1 a;have:=Yom v (b v hv);omega
 rw[List.mem_replicate] at a;omega
theorem Yis {x:List Nat}(h:Xhf x=0):10∉x:=by
 unfold Xhf at h;split at h;·rename_i h1;exact absurd h h1
 rename_i h1;obtain⟨a,b⟩:=Xn9 x (by omega);rw[←a];exact Yfu b
def Sp (t:List Nat):Prop:=t=[]∨∃u,t=32::u
theorem Xyw (l:List Nat):Sp (l.dropWhile fun c=>!decide (c=32)):=by
 induction l with
 |nil=>exact .inl rfl
 |cons a l ih=>
  by_cases ha:a=32;·rw[List.dropWhile_cons_of_neg (by simp[ha])];exact .inr ⟨l,by rw[ha]⟩
  rw[List.dropWhile_cons_of_pos (by simp[ha])];exact ih
theorem Xc4 {t:List Nat}{k:List Nat→List Nat→Nat}(ht:Sp t)(h:nxt t k=0)(P:∀x u,Sp u→k x u=0→10∉x∧10∉u):10∉t:=by
 rcases ht with rfl|⟨u,rfl⟩;·simp
 unfold nxt at h;obtain⟨b,d⟩:=P _ _ (Xyw u) h;intro a;rcases List.mem_cons.1 a with a|a;·omega
 rw[←List.takeWhile_append_dropWhile (p:=fun c=>!decide (c=32)) (l:=u),List.mem_append] at a;rcases a with a|a;·exact b a
 exact d a
theorem Xjl {t:List Nat}(h:fin t=0):10∉t:=by
 unfold fin at h;split at h;·rename_i h1;rw[h1];simp
 cases h
theorem Xpl {t:List Nat}(ht:Sp t)(h:Xd3 t=0):10∉t:=by
 rcases ht with rfl|⟨u,rfl⟩;·simp
 unfold Xd3 at h;simp only[] at h;split at h;·cases h
 unfold Xna at h;split at h;·cases h
 split at h;·cases h
 rename_i h1;have b:u.all prC=true:=by
  cases hq:u.all prC;·exact absurd hq h1
  rfl
 intro a;rcases List.mem_cons.1 a with a|a;·omega
 exact absurd (List.all_eq_true.1 b 10 a) (by decide)
theorem Yj0 {s:List Nat}(h:Xd4 s=0):10∉s:=by
 unfold Xd4 at h;split at h;·cases h
 obtain⟨k,g⟩:=xq (s.takeWhile fun c=>!decide (c=32));obtain⟨t,d⟩:=xq (s.dropWhile fun c=>!decide (c=32));have i:s=k++t:=by rw[g,d];exact List.takeWhile_append_dropWhile.symm
 have b:Sp t:=by rw[d];exact Xyw s
 rw[←g,←d] at h;have key:10∉k∧10∉t:=by
  unfold Xxl at h;split at h;·rename_i e;refine⟨by rw[e];decide,Xc4 b h fun x u hu h=>?_⟩;exact⟨Xym (Xbu h).1,Xjl (Xbu h).2⟩
  split at h;·rename_i e;refine⟨by rw[e];decide,Xc4 b h fun x u hu h=>⟨Xym (Xbu h).1,Xc4 hu (Xbu h).2 fun y v hv h=>?_⟩⟩;exact⟨Xsc (Xbu h).1,Xjl (Xbu h).2⟩
  split at h
  ·rename_i e;refine⟨by rw[e];decide,Xc4 b h fun x u hu h=>⟨Xsc (Xbu h).1,Xc4 hu (Xbu h).2 fun y v hv h=>⟨Xry (Xbu h).1,Xc4 hv (Xbu h).2 fun m v hv h=>?_⟩⟩⟩;split at h;·rename_i e;exact⟨by rw[e];decide,Xpl hv h⟩
   split at h;·rename_i e;exact⟨by rw[e];decide,Xc4 hv h fun a z hz h=>⟨Yey (Xbu h).1,Xpl hz (Xbu h).2⟩⟩
   cases h
  split at h;·rename_i e;refine⟨by rw[e];decide,Xc4 b h fun x u hu h=>⟨Xsc (Xbu h).1,Xc4 hu (Xbu h).2 fun y v hv h=>?_⟩⟩;exact⟨Xry (Xbu h).1,Xjl (Xbu h).2⟩
  split at h;·rename_i e;refine⟨by rw[e];decide,Xc4 b h fun x u hu h=>⟨Xry (Xbu h).1,Xc4 hu (Xbu h).2 fun y v hv h=>?_⟩⟩;exact⟨Yis (Xbu h).1,Xjl (Xbu h).2⟩
  cases h
 rw[i,List.mem_append];rintro(f|f);·exact key.1 f
 exact key.2 f
structure Cont.Vd (c:Cont):Prop where
 name:10∉c.name
 date:0≤c.date∧c.date≤105190559
 groups:c.groups≠[]∧∀x∈c.groups,Xbo x=0
 subject:10∉c.subject
 ctl:10∉c.ctl
 dist:10∉c.dist
 number:0≤c.number∧c.number≤1000
 height:1≤c.height∧c.height≤8
 leaf:0≤c.leaf∧c.leaf≤256
theorem Xvm {c:Cont}(h:Xe0 c=0):c.Vd:=by
 unfold Xe0 at h;obtain⟨l,h⟩:=Xbu h;obtain⟨f,h⟩:=Xbu h;obtain⟨m,h⟩:=Xbu h;obtain⟨n,h⟩:=Xbu h;obtain⟨s,h⟩:=Xbu h;obtain⟨g,h⟩:=Xbu h;obtain⟨j,h⟩:=Xbu h;obtain⟨i,h⟩:=Xbu h;obtain⟨d,h⟩:=Xbu h;obtain⟨a,h⟩:=Xbu h;have f:=Xe8 (by decide) f;have i:=Xe8 (by decide) i;have d:=Xe8 (by decide) d;have a:=Xe8 (by decide) a;simp only[Bool.or_eq_false_iff,decide_eq_false_iff_not] at f i a;have p:1≤c.height∧c.height≤8:=by unfold Xau at d;simp at d;omega
 refine⟨Xtj l,by omega,Ya6 m,Xtj n,?_,?_,by omega,p,by omega,?_⟩
 ·unfold Xx4 at g;split at g;·rename_i e;rw[e];simp
  exact Yj0 (Xbu (Xbu g).2).1
 ·unfold Xk4 at j;have:=Xe8 (by decide) (Xbu j).2;intro r;rw[List.any_eq_false] at this;exact absurd (this 10 r) (by decide)
 have b:=a.2;unfold Xbi at b;have o:Xau c.height=true:=by unfold Xau;simp;omega
 rw[qP o] at b;have:(2:Int)^c.height.toNat≤256:=by
  obtain⟨k,q⟩:=xq c.height.toNat;rw[←q];have:k≤8:=by omega
  have:∀k,k≤8→(2:Int)^k≤256:=by decide
  exact this k (by omega)
 omega
end Go.Proofs.YtjolcnopipbkhaaGreatDoor
