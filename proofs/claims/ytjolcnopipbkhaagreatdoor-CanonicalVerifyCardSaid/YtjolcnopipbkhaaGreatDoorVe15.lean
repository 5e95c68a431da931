/- bulletinref18.Form of a valid content (printed by gen_rform.py). -/
import Derived.Test.YtjolcnopipbkhaaGreatDoorVe14
namespace Go.Proofs.YtjolcnopipbkhaaGreatDoor
open Go.Proofs.Tryz
open Go.RowKit Go.Maps
set_option linter.unusedVariables false
set_option maxHeartbeats 100000000
set_option maxRecDepth 100000
theorem Xzl {ids:List (List Nat)}(h:Xgi ids=0):ids.length≤1000:=by
 rw[Xzm] at h;by_cases h1:20<ids.length;·rw[qP h1] at h;cases h
 omega
theorem Xvo {c:Cn}(ok:c.Ok)(h:Xe0 c.p=0):∀v∈Xcp c.p,∀x∈v,x<256:=by intro v hv x a;refine Xga ok h x ?_;unfold Xcf;refine List.mem_append_left _ ?_;have d:fWords.length=(Xcp c.p).length:=rfl;obtain⟨j,b,rfl⟩:=List.getElem_of_mem hv;refine List.mem_flatMap.2 ⟨(fWords[j]'(by omega),(Xcp c.p)[j]),?_,by simp[a]⟩;rw[←List.getElem_zip (h:=by rw[List.length_zip];omega)];exact zG _
theorem Yd7 {c:Cn}(ok:c.Ok)(h:Xe0 c.p=0):Xcs 10 [(⟨#[110,97,109,101,32]⟩:ByteArray)++c.name,(⟨#[97,117,116,104,111,114,32]⟩:ByteArray)++(Xax (Xb5 c.author)),(⟨#[100,97,116,101,32]⟩:ByteArray)++(Xax (Xfh c.date)),(⟨#[103,114,111,117,112,115,32]⟩:ByteArray)++(Xcs 44 c.groups),(⟨#[115,117,98,106,101,99,116,32]⟩:ByteArray)++c.subject,(⟨#[114,101,102,101,114,101,110,99,101,115,32]⟩:ByteArray)++(Xcs 32 (Xg9 c.refs)),(⟨#[115,117,112,101,114,115,101,100,101,115,32]⟩:ByteArray)++(Xax (Xlh c.sup)),(⟨#[99,111,110,116,114,111,108,32]⟩:ByteArray)++c.ctl,(⟨#[100,105,115,116,114,105,98,117,116,105,111,110,32]⟩:ByteArray)++c.dist,(⟨#[107,101,121,32]⟩:ByteArray)++(Xax (Xun c.p)),(⟨#[108,101,97,102,32]⟩:ByteArray)++(Xax (Xfh c.leaf)),⟨#[]⟩]++(⟨#[10]⟩:ByteArray)++c.body=Xax (Xcf c.p):=by
 have H:=Xvo ok h;have k:c.body=Xax (bs c.body):=(Xe3 _).symm;have lt:∀x∈Xcf c.p,x<256:=Xga ok h;have a:∀v∈Xcp c.p,bs (Xax v)=v:=fun v hv=>Xd2 v (H v hv);have d:=a (Xb5 c.author) (by simp[Xcp,Cn.p]);have e:=a (Xfh c.date) (by simp[Xcp,Cn.p]);have f:bs (Xcs 44 c.groups)=Xa9 [44] (c.groups.map bs):=a (Xa9 [44] (c.groups.map bs)) (by simp[Xcp,Cn.p]);have g:bs (Xcs 32 (Xg9 c.refs))=Xa9 [32] (c.refs.map Xfi):=by unfold Xcs;rw[Xny ok.refs];exact a (Xa9 [32] (c.refs.map Xfi)) (by simp[Xcp,Cn.p])
 have i:=a (Xlh c.sup) (by simp[Xcp,Cn.p]);have j:=a (Xun c.p) (by simp[Xcp]);have b:=a (Xfh c.leaf) (by simp[Xcp,Cn.p]);have key:∀l:List ByteArray,Xcs 10 l=Xax (Xa9 [10] (l.map bs)):=fun _=>rfl;rw[key]
 conv=>lhs;rw[k]
 rw[show(⟨#[10]⟩:ByteArray)=Xax [10] from rfl,←Xcm,←Xcm];congr 1;simp only[List.map_cons,List.map_nil,Xlb,d,e,f,g,i,j,b];rw[show bs (⟨#[110,97,109,101,32]⟩:ByteArray)=[110,97,109,101,32] from rfl];rw[show bs (⟨#[97,117,116,104,111,114,32]⟩:ByteArray)=[97,117,116,104,111,114,32] from rfl];rw[show bs (⟨#[100,97,116,101,32]⟩:ByteArray)=[100,97,116,101,32] from rfl];rw[show bs (⟨#[103,114,111,117,112,115,32]⟩:ByteArray)=[103,114,111,117,112,115,32] from rfl];rw[show bs (⟨#[115,117,98,106,101,99,116,32]⟩:ByteArray)=[115,117,98,106,101,99,116,32] from rfl];rw[show bs (⟨#[114,101,102,101,114,101,110,99,101,115,32]⟩:ByteArray)=[114,101,102,101,114,101,110,99,101,115,32] from rfl];rw[show bs (⟨#[115,117,112,101,114,115,101,100,101,115,32]⟩:ByteArray)=[115,117,112,101,114,115,101,100,101,115,32] from rfl];rw[show bs (⟨#[99,111,110,116,114,111,108,32]⟩:ByteArray)=[99,111,110,116,114,111,108,32] from rfl];rw[show bs (⟨#[100,105,115,116,114,105,98,117,116,105,111,110,32]⟩:ByteArray)=[100,105,115,116,114,105,98,117,116,105,111,110,32] from rfl];rw[show bs (⟨#[107,101,121,32]⟩:ByteArray)=[107,101,121,32] from rfl];rw[show bs (⟨#[108,101,97,102,32]⟩:ByteArray)=[108,101,97,102,32] from rfl];rw[show bs (⟨#[]⟩:ByteArray)=[] from rfl];unfold Xcf fWords Xcp;simp[Xa9,Cn.p]
theorem Xqb (c:Cont):(Xcf c).length=96+(c.name.length+(Xb5 c.author).length+(Xfh c.date).length+(Xa9 [44] c.groups).length+c.subject.length+(Xa9 [32] (c.refs.map Xfi)).length+(Xlh c.sup).length+c.ctl.length+c.dist.length+(Xun c).length+(Xfh c.leaf).length+c.body.length):=by unfold Xcf fWords Xcp;simp;omega
theorem Xv8 (w:World)(s0 s1 s2 s3 s4 s5 s6 s7 s8 s9 s10 s11:ByteArray):(Instr.buildSlice 23 12 #[(0,.string s0),(1,.string s1),(2,.string s2),(3,.string s3),(4,.string s4),(5,.string s5),(6,.string s6),(7,.string s7),(8,.string s8),(9,.string s9),(10,.string s10),(11,.string s11)]).run prog w=.ok (.slice (some ⟨w.heap.size,0,none⟩) 12 12) (w.alloc (.cells #[.string s0,.string s1,.string s2,.string s3,.string s4,.string s5,.string s6,.string s7,.string s8,.string s9,.string s10,.string s11] 9)):=by kernel_rfl
theorem Ybm {o:Oper}{a:Act}(w:World){x0 x1 x2 x3 x4 x5 x6 x7 x8 x9 x10 x11:Operand}{s0 s1 s2 s3 s4 s5 s6 s7 s8 s9 s10 s11:ByteArray}(ho:o.op=.buildSlice 23 12 #[(0,x0),(1,x1),(2,x2),(3,x3),(4,x4),(5,x5),(6,x6),(7,x7),(8,x8),(9,x9),(10,x10),(11,x11)]) (h0:a.eval x0=.string s0) (h1:a.eval x1=.string s1) (h2:a.eval x2=.string s2) (h3:a.eval x3=.string s3) (h4:a.eval x4=.string s4) (h5:a.eval x5=.string s5) (h6:a.eval x6=.string s6) (h7:a.eval x7=.string s7) (h8:a.eval x8=.string s8) (h9:a.eval x9=.string s9) (h10:a.eval x10=.string s10) (h11:a.eval x11=.string s11):(execOp a.eval o).run prog w=.ok (.value (.slice (some ⟨w.heap.size,0,none⟩) 12 12)) (w.alloc (.cells #[.string s0,.string s1,.string s2,.string s3,.string s4,.string s5,.string s6,.string s7,.string s8,.string s9,.string s10,.string s11] 9)):=by unfold execOp;rw[ho];simp only[List.map_toArray,List.map_cons,List.map_nil,h0,h1,h2,h3,h4,h5,h6,h7,h8,h9,h10,h11];rw[Sem.run_bind,Xv8];rfl
theorem Yla (w:World)(b:Nat)(s0 s1 s2 s3 s4 s5 s6 s7 s8 s9 s10 s11:ByteArray)(h:w.heap[b]?=some (.cells #[.string s0,.string s1,.string s2,.string s3,.string s4,.string s5,.string s6,.string s7,.string s8,.string s9,.string s10,.string s11] 9 (0,0))):SRow w (.slice (some ⟨b,0,none⟩) 12 12) [s0,s1,s2,s3,s4,s5,s6,s7,s8,s9,s10,s11]:=by
 refine⟨_,_,rfl,zL _,fun _=>⟨b,0,rfl,zY h,fun j a=>?_⟩⟩;rw[cell_of_row w b (0+j) _ _ _ h,Nat.zero_add];have a:j<12:=a
 match j,a with
 |0,_=>rfl
 |1,_=>rfl
 |2,_=>rfl
 |3,_=>rfl
 |4,_=>rfl
 |5,_=>rfl
 |6,_=>rfl
 |7,_=>rfl
 |8,_=>rfl
 |9,_=>rfl
 |10,_=>rfl
 |11,_=>rfl
theorem Xzg (w:World)(c:Cn)(gv rv:Value)(hin:CnIn w c gv rv)(h0:Xe0 c.p=0)(hF:(Xcf c.p).length≤10000000):zJ 13 #[.agg (c.cells gv rv)] w (.string (Xax (Xcf c.p))):=by
 obtain⟨w0,r⟩:=xq (w.alloc (.cells (c.cells gv rv) 28));have B0:Bw w w0:=by rw[r];exact(zR _ _).alloc (zL _) _
 have C0:CB w0 w.heap.size c gv rv 28:=by unfold CB;rw[r];exact heap_alloc_last w _
 have vd:=Xvm h0;obtain⟨q1,q2,q3⟩:=Xk8 h0;have s:=hin.ok;have l:=Hd s;have aB:=Hd hin;have FZ:=Xqb c.p;obtain⟨sa,z⟩:=xq (Xax (Xb5 c.author));obtain⟨sd,A⟩:=xq (Xax (Xfh c.date));obtain⟨sg,n⟩:=xq (Xcs 44 c.groups);obtain⟨sr,E⟩:=xq (Xcs 32 (Xg9 c.refs));obtain⟨so,D⟩:=xq (Xax (Xlh c.sup));obtain⟨sk,B⟩:=xq (Xax (Xun c.p));obtain⟨sl,C⟩:=xq (Xax (Xfh c.leaf));have z0:c.name.size≤10000000:=by have:(c.p.name).length=c.name.size:=Xac _;omega
 have z1:sa.size≤10000000:=by rw[z,Xat];have:(Xb5 c.p.author).length=(Xb5 c.author).length:=rfl;omega
 have z2:sd.size≤10000000:=by rw[A,Xat];have:(Xfh c.p.date).length=(Xfh c.date).length:=rfl;omega
 have z3:sg.size≤10000000:=by rw[n];unfold Xcs;rw[Xat];have:(Xa9 [44] c.p.groups).length=(Xa9 [44] (c.groups.map bs)).length:=rfl;omega
 have z4:c.subject.size≤10000000:=by have:(c.p.subject).length=c.subject.size:=Xac _;omega
 have z5:sr.size≤10000000:=by rw[E];unfold Xcs;rw[Xny s.refs,Xat];have:(Xa9 [32] (c.p.refs.map Xfi)).length=(Xa9 [32] (c.refs.map Xfi)).length:=rfl;omega
 have z6:so.size≤10000000:=by rw[D,Xat];have:(Xlh c.p.sup).length=(Xlh c.sup).length:=rfl;omega
 have z7:c.ctl.size≤10000000:=by have:(c.p.ctl).length=c.ctl.size:=Xac _;omega
 have z8:c.dist.size≤10000000:=by have:(c.p.dist).length=c.dist.size:=Xac _;omega
 have z9:sk.size≤10000000:=by rw[B,Xat];omega
 have aU:sl.size≤10000000:=by rw[C,Xat];have:(Xfh c.p.leaf).length=(Xfh c.leaf).length:=rfl;omega
 have zb:c.body.size≤10000000:=by have:(c.p.body).length=c.body.size:=Xac _;omega
 obtain⟨ra,T⟩:=xq (idA c.author);obtain⟨rs,U⟩:=xq (idA c.sup);obtain⟨cs,u⟩:=xq (c.cells gv rv);have aQ:Hid (∀wx,CB wx w.heap.size c gv rv 28→Ld 22 ⟨w.heap.size,1,none⟩ wx (.agg ra)):=Hd (fun wx h=>by rw[T];exact CB.author16 h l.o);have aS:Hid (∀wx,CB wx w.heap.size c gv rv 28→Ld 26 ⟨w.heap.size,21,none⟩ wx (.agg rs)):=Hd (fun wx h=>by rw[U];exact CB.sup h l.o);have aR:Hid (∀wx,CB wx w.heap.size c gv rv 28→Ld 28 ⟨w.heap.size,0,none⟩ wx (.agg cs)):=Hd (fun wx h=>by rw[u];exact CB.allR h l.o);have CA:Hid (∀wx:World,zJ 55 #[.agg ra] wx (.string sa)):=Hd (fun wx=>by rw[T,z];exact Xrp wx s.author);have CD:Hid (∀wx:World,zJ 56 #[.int .i64 c.date] wx (.string sd)):=Hd (fun wx=>by rw[A];exact Xgx c.date vd.date.1 (Xhk s.date).2 wx);have CG:Hid (∀wx:World,Bw w wx→Rx 57 #[gv,.string (⟨#[44]⟩:ByteArray)] wx (.string sg)):=Hd (fun wx g=>by have:=Xpj wx gv c.groups 44 (aB.o.srow.below g) aB.o.gl (by rw[←n];omega);rw[←n] at this;exact this);have CO:Hid (∀wx:World,zJ 58 #[.agg rs] wx (.string so)):=Hd (fun wx=>by rw[U,D];exact Yd3 wx s.sup);have CK:Hid (∀wx:World,zJ 59 #[.agg cs] wx (.string sk)):=Hd (fun wx=>by rw[u,B];exact Ydw wx c s vd.number.1 gv rv);have CL:Hid (∀wx:World,zJ 56 #[.int .i64 c.leaf] wx (.string sl)):=Hd (fun wx=>by rw[C];exact Xgx c.leaf vd.leaf.1 (Xhk s.leaf).2 wx);have RL:=Hd (Xpi w0 rv c.refs (hin.irow.below B0) hin.rl s.refs);have aE:Hid (∀(wx:World) v,IRow wx v c.refs→zJ 54 #[v] wx (.tuple #[.string sr,.int .i64 0])):=Hd (fun wx v h=>by rw[E];exact Yin wx v c.refs h (Xzl q2) s.refs q2);obtain⟨W,I⟩:=xq ((⟨#[110,97,109,101,32]⟩:ByteArray)++c.name);have y0:¬9223372036854775807<5+c.name.size:=by omega
 have x0:c.name.size≤9223372036854775802:=by omega
 obtain⟨X,J⟩:=xq ((⟨#[97,117,116,104,111,114,32]⟩:ByteArray)++sa);have y1:¬9223372036854775807<7+sa.size:=by omega
 have x1:sa.size≤9223372036854775800:=by omega
 obtain⟨Y,K⟩:=xq ((⟨#[100,97,116,101,32]⟩:ByteArray)++sd);have y2:¬9223372036854775807<5+sd.size:=by omega
 have x2:sd.size≤9223372036854775802:=by omega
 obtain⟨Z,L⟩:=xq ((⟨#[103,114,111,117,112,115,32]⟩:ByteArray)++sg);have y3:¬9223372036854775807<7+sg.size:=by omega
 have x3:sg.size≤9223372036854775800:=by omega
 obtain⟨p4,M⟩:=xq ((⟨#[115,117,98,106,101,99,116,32]⟩:ByteArray)++c.subject);have y4:¬9223372036854775807<8+c.subject.size:=by omega
 have x4:c.subject.size≤9223372036854775799:=by omega
 obtain⟨p5,N⟩:=xq ((⟨#[114,101,102,101,114,101,110,99,101,115,32]⟩:ByteArray)++sr);have y5:¬9223372036854775807<11+sr.size:=by omega
 have x5:sr.size≤9223372036854775796:=by omega
 obtain⟨p6,O⟩:=xq ((⟨#[115,117,112,101,114,115,101,100,101,115,32]⟩:ByteArray)++so);have y6:¬9223372036854775807<11+so.size:=by omega
 have x6:so.size≤9223372036854775796:=by omega
 obtain⟨p7,P⟩:=xq ((⟨#[99,111,110,116,114,111,108,32]⟩:ByteArray)++c.ctl);have y7:¬9223372036854775807<8+c.ctl.size:=by omega
 have x7:c.ctl.size≤9223372036854775799:=by omega
 obtain⟨p8,Q⟩:=xq ((⟨#[100,105,115,116,114,105,98,117,116,105,111,110,32]⟩:ByteArray)++c.dist);have y8:¬9223372036854775807<13+c.dist.size:=by omega
 have x8:c.dist.size≤9223372036854775794:=by omega
 obtain⟨p9,R⟩:=xq ((⟨#[107,101,121,32]⟩:ByteArray)++sk);have y9:¬9223372036854775807<4+sk.size:=by omega
 have x9:sk.size≤9223372036854775803:=by omega
 obtain⟨k,m⟩:=xq ((⟨#[108,101,97,102,32]⟩:ByteArray)++sl);have aW:¬9223372036854775807<5+sl.size:=by omega
 have aV:sl.size≤9223372036854775802:=by omega
 obtain⟨t,y⟩:=xq (Xcs 10 [W,X,Y,Z,p4,p5,p6,p7,p8,p9,k,(⟨#[]⟩:ByteArray)]);have aD:Hid (t++(⟨#[10]⟩:ByteArray)++c.body=Xax (Xcf c.p)):=Hd (by rw[←Yd7 s h0,y,I,J,K,L,M,N,O,P,Q,R,m,z,A,n,E,D,B,C]);have zr:t.size+1+c.body.size≤10000000:=by have:=congrArg ByteArray.size aD.o;rw[Xat,ByteArray.size_append,ByteArray.size_append] at this;have e:(⟨#[10]⟩:ByteArray).size=1:=rfl;omega
 have aX:t.size≤9223372036854775806:=by omega
 have aY:(t++(⟨#[10]⟩:ByteArray)).size+c.body.size≤9223372036854775807:=by rw[ByteArray.size_append];show t.size+1+_≤_;omega
 have aZ:t.size+1+c.body.size≤9223372036854775807:=by omega
 have CT:Hid (∀(wx:World) b,wx.heap[b]?=some (.cells #[.string W,.string X,.string Y,.string Z,.string p4,.string p5,.string p6,.string p7,.string p8,.string p9,.string k,.string (⟨#[]⟩:ByteArray)] 9 (0,0))→Rx 57 #[.slice (some ⟨b,0,none⟩) 12 12,.string (⟨#[10]⟩:ByteArray)] wx (.string t)):=Hd (fun wx b h=>by have:=Xpj wx _ _ 10 (Yla wx b _ _ _ _ _ _ _ _ _ _ _ _ h) (show 12≤1000000 by omega) (by rw[←y];omega);rw[←y] at this;exact this);rw[←u] at r⊢;have HW:=Hd r;have j:=Hd C0;have aA:=Hd B0;have aG:=Hd I;have aH:=Hd J;have aI:=Hd K;have aJ:=Hd L;have aK:=Hd M;have aL:=Hd N;have aM:=Hd O;have aN:=Hd P;have aO:=Hd Q;have aP:=Hd R;have aC:=Hd m;clear r u T U z A n E D B C y C0 B0 s h0 hF hin vd q1 q2 q3 FZ z0 z1 z2 z3 z4 z5 z6 z7 z8 z9 aU zb zr I J K L M N O P Q R m;have aT:w0.cell? ⟨w.heap.size,20,none⟩=some rv:=j.o.at (Xxi l.o gv rv);go_enter func13,ntmps13;go_upto_region 1 with fail;rw[←HW.o];clear HW;go_wp2_with fail;refine RL.o.mono ?_;rintro e w1 ⟨v',rfl,aF,g⟩;have D1:=Hd g;have RP:=Hd (aE.o w1 v' aF);clear g aF RL aT aE;go_wp2_with fail;refine RP.o.mono ?_;rintro e w2 ⟨rfl,g⟩;have D2:=bh D1 g;clear g RP D1;go_upto_region 2 with fail;refine wp_region_held (S:=fun wx=>CB wx w.heap.size c gv rv 28) (by kernel_rfl) ?_;change wpAnyH _ _ _ _ _ _ _ _ w2.drew;obtain⟨wd,V⟩:=xq w2.drew;rw[←V];have E0:Hid (Bw w0 wd):=Hd (by rw[V];exact D2.o.trans ((zR _ _).drew.mono D2.o.size));clear V D2;have d:(fun wx:World=>CB wx w.heap.size c gv rv 28) wd:=j.o.on E0.o;refine Xae 0 (.pointer (some ⟨w.heap.size,0,none⟩)) rfl (fun _ _=>by go_simp) d ?_;refine Xae 1 (.string c.name) rfl (fun w' hw'=>by have H:=hw'.at (Yk0 c gv rv);go_simp) d ?_;refine Xae 2 (.string W) rfl (fun _ _=>by go_simp;exact aG.o.symm) d ?_;refine Xae 3 (.pointer (some ⟨w.heap.size,1,none⟩)) rfl (fun _ _=>by go_simp) d ?_;refine Xae 4 (.agg ra) rfl (fun w' hw'=>Xaj (ty:=22) (x:=.tmp 16) (ad:=⟨w.heap.size,1,none⟩) rfl (by kernel_rfl) (aQ.o w' hw')) d ?_;refine Xae 7 (.pointer (some ⟨w.heap.size,17,none⟩)) rfl (fun _ _=>by go_simp) d ?_;refine Xae 8 (.int .i64 c.date) rfl (fun w' hw'=>by have H:=hw'.at (Yb5 l.o gv rv);go_simp) d ?_;refine Xae 11 (.pointer (some ⟨w.heap.size,18,none⟩)) rfl (fun _ _=>by go_simp) d ?_;refine Xae 12 (gv) rfl (fun w' hw'=>by have H:=hw'.at (Xxk l.o gv rv);go_simp) d ?_;refine Xae 15 (.pointer (some ⟨w.heap.size,19,none⟩)) rfl (fun _ _=>by go_simp) d ?_;refine Xae 16 (.string c.subject) rfl (fun w' hw'=>by have H:=hw'.at (Xxj l.o gv rv);go_simp) d ?_;refine Xae 17 (.string p4) rfl (fun _ _=>by go_simp;exact aK.o.symm) d ?_;refine Xae 18 (.string sr) rfl (fun _ _=>by go_simp) d ?_;refine Xae 19 (.string p5) rfl (fun _ _=>by go_simp;exact aL.o.symm) d ?_;refine Xae 20 (.pointer (some ⟨w.heap.size,21,none⟩)) rfl (fun _ _=>by go_simp) d ?_;refine Xae 21 (.agg rs) rfl (fun w' hw'=>Xaj (ty:=26) (x:=.tmp 33) (ad:=⟨w.heap.size,21,none⟩) rfl (by kernel_rfl) (aS.o w' hw')) d ?_;refine Xae 24 (.pointer (some ⟨w.heap.size,53,none⟩)) rfl (fun _ _=>by go_simp) d ?_;refine Xae 25 (.string c.ctl) rfl (fun w' hw'=>by have H:=hw'.at (Xsy l.o gv rv);go_simp) d ?_;refine Xae 26 (.string p7) rfl (fun _ _=>by go_simp;exact aN.o.symm) d ?_;refine Xae 27 (.pointer (some ⟨w.heap.size,54,none⟩)) rfl (fun _ _=>by go_simp) d ?_;refine Xae 28 (.string c.dist) rfl (fun w' hw'=>by have H:=hw'.at (Xxh l.o gv rv);go_simp) d ?_;refine Xae 29 (.string p8) rfl (fun _ _=>by go_simp;exact aO.o.symm) d ?_;refine Xae 30 (.agg cs) rfl (fun w' hw'=>Xaj (ty:=28) (x:=.tmp 1) (ad:=⟨w.heap.size,0,none⟩) rfl (by kernel_rfl) (aR.o w' hw')) d ?_;refine Xae 33 (.pointer (some ⟨w.heap.size,73,none⟩)) rfl (fun _ _=>by go_simp) d ?_;refine Xae 34 (.int .i64 c.leaf) rfl (fun w' hw'=>by have H:=hw'.at (Xoe l.o gv rv);go_simp) d ?_;refine Xag (i:=5) (by kernel_rfl) ?_;refine Xao (f:=55) (args:=#[.agg ra]) rfl rfl (by kernel_rfl) ?_;refine(CA.o wd).mono ?_;rintro e y1 ⟨rfl,g⟩;have E1:=bh E0 g;clear g;replace d:=j.o.on E1.o;refine⟨_,rfl,d,?_⟩;refine Xae 6 (.string X) rfl (fun _ _=>by go_simp;exact aH.o.symm) d ?_;refine Xag (i:=9) (by kernel_rfl) ?_;refine Xao (f:=56) (args:=#[.int .i64 c.date]) rfl rfl (by kernel_rfl) ?_;refine(CD.o y1).mono ?_;rintro e y2 ⟨rfl,g⟩;have E2:=bh E1 g;clear g;replace d:=j.o.on E2.o;refine⟨_,rfl,d,?_⟩;refine Xae 10 (.string Y) rfl (fun _ _=>by go_simp;exact aI.o.symm) d ?_;have F2:=Hd (bg aA.o E2.o);refine Xag (i:=13) (by kernel_rfl) ?_;refine Xao (f:=57) (args:=#[gv,.string (⟨#[44]⟩:ByteArray)]) rfl rfl (by kernel_rfl) ?_;refine(CG.o y2 F2.o).mono ?_;rintro e y3 ⟨rfl,rfl⟩;refine⟨_,rfl,d,?_⟩;refine Xae 14 (.string Z) rfl (fun _ _=>by go_simp;exact aJ.o.symm) d ?_;refine Xag (i:=22) (by kernel_rfl) ?_;refine Xao (f:=58) (args:=#[.agg rs]) rfl rfl (by kernel_rfl) ?_;refine(CO.o _).mono ?_;rintro e y4 ⟨rfl,g⟩;have E4:=bh E2 g;clear g;replace d:=j.o.on E4.o;refine⟨_,rfl,d,?_⟩;refine Xae 23 (.string p6) rfl (fun _ _=>by go_simp;exact aM.o.symm) d ?_;refine Xag (i:=31) (by kernel_rfl) ?_;refine Xao (f:=59) (args:=#[.agg cs]) rfl rfl (by kernel_rfl) ?_;refine(CK.o y4).mono ?_;rintro e y5 ⟨rfl,g⟩;have E5:=bh E4 g;clear g;replace d:=j.o.on E5.o;refine⟨_,rfl,d,?_⟩;refine Xae 32 (.string p9) rfl (fun _ _=>by go_simp;exact aP.o.symm) d ?_;refine Xag (i:=35) (by kernel_rfl) ?_;refine Xao (f:=56) (args:=#[.int .i64 c.leaf]) rfl rfl (by kernel_rfl) ?_;refine(CL.o y5).mono ?_;rintro e y6 ⟨rfl,g⟩;have E6:=bh E5 g;clear g;replace d:=j.o.on E6.o;refine⟨_,rfl,d,?_⟩;refine Xae 36 (.string k) rfl (fun _ _=>by go_simp;exact aC.o.symm) d ?_;refine Xag (i:=37) (by kernel_rfl) ?_;refine Xan rfl rfl (Ybm (s0:=W) (s1:=X) (s2:=Y) (s3:=Z) (s4:=p4) (s5:=p5) (s6:=p6) (s7:=p7) (s8:=p8) (s9:=p9) (s10:=k) (s11:=(⟨#[]⟩:ByteArray)) y6 rfl (by kernel_rfl) (by kernel_rfl) (by kernel_rfl) (by kernel_rfl) (by kernel_rfl) (by kernel_rfl) (by kernel_rfl) (by kernel_rfl) (by kernel_rfl) (by kernel_rfl) (by kernel_rfl) rfl) ?_;obtain⟨y7,G⟩:=xq (y6.alloc (.cells #[.string W,.string X,.string Y,.string Z,.string p4,.string p5,.string p6,.string p7,.string p8,.string p9,.string k,.string (⟨#[]⟩:ByteArray)] 9));rw[←G];have E7:Hid (Bw w0 y7):=Hd (by rw[G];exact E6.o.alloc E6.o.size _);have AB:Hid (y7.heap[y6.heap.size]?=some (.cells #[.string W,.string X,.string Y,.string Z,.string p4,.string p5,.string p6,.string p7,.string p8,.string p9,.string k,.string (⟨#[]⟩:ByteArray)] 9 (0,0))):=Hd (by rw[G];exact heap_alloc_last y6 _);clear G;obtain⟨q,hq⟩:=xq y6.heap.size;rw[←hq] at AB⊢;clear hq;replace d:=j.o.on E7.o;refine⟨d,?_⟩;refine Xae 38 (.slice (some ⟨q,0,none⟩) 12 12) rfl (fun _ _=>by go_simp) d ?_;refine wpAnyH_done (by kernel_rfl) ?_ _;go_simp;refine‹∀(a:Act) (w_1:World),_→_› _ _ ?_;clear d;go_upto_region 3 with fail;refine wp_region_held (S:=fun wx=>CB wx w.heap.size c gv rv 28) (by kernel_rfl) ?_;change wpAnyH _ _ _ _ _ _ _ _ y7.drew;obtain⟨wf,F⟩:=xq y7.drew;rw[←F];have E8:Hid (Bw w0 wf):=Hd (by rw[F];exact E7.o.trans ((zR _ _).drew.mono E7.o.size));replace AB:Hid (wf.heap[q]?=some (.cells #[.string W,.string X,.string Y,.string Z,.string p4,.string p5,.string p6,.string p7,.string p8,.string p9,.string k,.string (⟨#[]⟩:ByteArray)] 9 (0,0))):=Hd (by rw[F];exact AB.o);clear F;have d:(fun wx:World=>CB wx w.heap.size c gv rv 28) wf:=j.o.on E8.o;refine Xae 0 (.slice (some ⟨q,0,none⟩) 12 12) rfl (fun _ _=>by go_simp) d ?_;refine Xae 3 (.pointer (some ⟨w.heap.size,74,none⟩)) rfl (fun _ _=>by go_simp) d ?_;refine Xae 4 (.string c.body) rfl (fun w' hw'=>by have H:=hw'.at (Xsx l.o gv rv);go_simp) d ?_;refine Xag (i:=1) (by kernel_rfl) ?_;refine Xao (f:=57) (args:=#[.slice (some ⟨q,0,none⟩) 12 12,.string (⟨#[10]⟩:ByteArray)]) rfl rfl (by kernel_rfl) ?_;refine(CT.o wf q AB.o).mono ?_;rintro e y8 ⟨rfl,rfl⟩;refine⟨_,rfl,d,?_⟩;refine Xae 2 (.string (t++(⟨#[10]⟩:ByteArray))) rfl (fun _ _=>by go_simp) d ?_;refine Xae 5 (.string (t++(⟨#[10]⟩:ByteArray)++c.body)) rfl (fun _ _=>by go_simp) d ?_;refine Xae 6 (.string (t++(⟨#[10]⟩:ByteArray)++c.body)) rfl (fun _ _=>by go_simp) d ?_;refine wpAnyH_done (by kernel_rfl) ?_ _;go_simp;refine‹∀(a:Act) (w_1:World),_→_› _ _ ?_;go_wp2_with fail;go_ret;exact⟨by rw[←aD.o];rfl,bg aA.o E8.o⟩
def exn (s:ByteArray):Cn:=⟨⟨#[65,110,110]⟩,1::List.replicate 15 0,0,[⟨#[97,46,98]⟩],s,[],zero32,⟨#[]⟩,⟨#[]⟩,0,1,List.replicate 16 0,0,⟨#[]⟩⟩
def exT (x:Nat):ByteArray:=Xax [116,101,x]
theorem Xw6 (x:Nat)(h:x=97∨x=110):(exn (exT x)).p=exC x:=by rcases h with rfl|rfl<;>decide+kernel
theorem Ybj (s:ByteArray):(exn s).Ok:=⟨⟨by simp[exn],fun x hx=>by simp[exn] at hx;omega⟩,⟨by simp[exn],fun x hx=>by simp[exn] at hx;omega⟩,⟨by simp[exn,zero32],fun x hx=>by simp[exn,zero32] at hx;omega⟩,fun x hx=>(by cases hx),rfl,rfl,rfl,rfl⟩
theorem Yhl {w:World}{g:Nat}{s:ByteArray}(hs:s.size≤1000)(h:w.heap[g]?=some (.cells #[.string ⟨#[97,46,98]⟩] 9 (0,0))):CnIn w (exn s) (.slice (some ⟨g,0,none⟩) 1 1) (.slice none 0 0):=
 ⟨Ybj s,Nat.le_of_ble_eq_true rfl,by show s.size≤_;omega,Nat.le_of_ble_eq_true rfl,Nat.le_of_ble_eq_true rfl,Nat.le_of_ble_eq_true rfl,Nat.le_of_ble_eq_true rfl,fun x a=>by
  have a:x=⟨#[97,46,98]⟩:=by simpa [exn] using a
  rw[a];decide,Nat.le_of_ble_eq_true rfl,
  ⟨_,_,rfl,zL _,fun _=>⟨g,0,rfl,zY h,fun j b=>by
   have b:j<1:=b;obtain rfl:j=0:=by omega
   rw[cell_of_row w g (0+0) _ _ _ h];rfl⟩⟩,
  ⟨none,0,rfl,zL _,fun hne=>absurd rfl hne⟩⟩
theorem Ybo (x:Nat)(h:x=97∨x=110):(Xcf (exC x)).length≤10000000:=by rcases h with rfl|rfl<;>decide+kernel
theorem Ymm:Lib.hasPrefix (Xax (Xcf (exC 97))).data.toList (⟨#[110,97,109,101,32,65,110,110,10,97,117,116,104,111,114,32,48,49,48,48]⟩:ByteArray).data.toList=true:=by decide+kernel
theorem Yfa (w:World)(g:Nat):(Instr.build 39 #[(0,.string ⟨#[65,110,110]⟩),(1,.agg (idA (1::List.replicate 15 0))),(3,.slice (some ⟨g,0,none⟩) 1 1),(4,.string ⟨#[116,101,97]⟩),(10,.agg (pkC 1 (List.replicate 16 0)))]).run prog w=.ok (.agg ((exn (exT 97)).cells (.slice (some ⟨g,0,none⟩) 1 1) (.slice none 0 0))) w:=by kernel_rfl
theorem Yam (w:World):(Instr.build 35 #[(0,.int .u8 1)]).run prog w=.ok (.agg (idA (1::List.replicate 15 0))) w:=by kernel_rfl
theorem Yl4 (w:World):(Instr.build 37 #[(0,.int .i64 1)]).run prog w=.ok (.agg (pkC 1 (List.replicate 16 0))) w:=by kernel_rfl
theorem Ynv (w:World)(s:ByteArray):(Instr.buildSlice 23 1 #[(0,.string s)]).run prog w=.ok (.slice (some ⟨w.heap.size,0,none⟩) 1 1) (w.alloc (.cells #[.string s] 9)):=by kernel_rfl
theorem Xsk {o:Oper}{a:Act}(w:World)(ho:o.op=.alloc 39):(execOp a.eval o).run prog w=.ok (.value (.pointer (some ⟨w.heap.size,0,none⟩))) (w.alloc (.cells (cn0.cells (.slice none 0 0) (.slice none 0 0)) 39)):=by rw[Xqs];unfold execOp;rw[ho];rfl
theorem Xsj {o:Oper}{a:Act}(w:World)(ho:o.op=.alloc 26):(execOp a.eval o).run prog w=.ok (.value (.pointer (some ⟨w.heap.size,0,none⟩))) (w.alloc (.cells (idA zero32) 26)):=by unfold execOp;rw[ho];rfl
theorem Xnm {P:Program}(w:World)(g o:Nat)(ty t:TypeId)(X Z:List Value)(y:Value)(s:ByteArray)(hg:w.heap[g]?=some (.cells (X++(y::Z)).toArray t (0,0)))(hX:X.length=o) (hi:(P.info? ty).map (·.size)=some 1):(storeVar ty ⟨g,o,none⟩ (.string s)).run P w=.ok () (w.setRow g (X++(.string s::Z)).toArray):=by
 have a:=run_storeCells_at P g o t [.string s] 0 _ w hg (by simp;omega) (by simp[Value.oneCell']);have e:(X++(y::Z)).toArray.toList.take (o+0)++[.string s]++(X++(y::Z)).toArray.toList.drop (o+0+1)=X++(.string s::Z):=by subst hX;simp
 rw[show([Value.string s]:List Value).length=1 from rfl,e] at a
 cases hq:P.info? ty with
 |none=>simp[hq] at hi
 |some i=>
  have b:i.size=1:=by simp[hq] at hi;omega
  simp[storeVar,sizeOf,typeInfo,hq,Value.cells,b,a]
theorem Ybi (s:ByteArray)(gv rv:Value):(exn s).cells gv rv=((([.string ⟨#[65,110,110]⟩]:List Value)++((1::List.replicate 15 0).map U++([.int .i64 0,gv]:List Value)))++(.string s::(rv::(zero32.map U++(([.string ⟨#[]⟩,.string ⟨#[]⟩,.int .i64 0,.int .i64 1]:List Value)++((List.replicate 16 0).map U++([.int .i64 0,.string ⟨#[]⟩]:List Value))))))).toArray:=rfl
theorem Yao (w:World)(hE:Env w):Calls prog 5 #[] w fun e w'=>e=.returned (.bool true)∧Below w.heap.size w w':=by
 obtain⟨g,H⟩:=xq w.heap.size;obtain⟨gv,j⟩:=xq (Value.slice (some ⟨g,0,none⟩) 1 1);obtain⟨f,d⟩:=xq ((exn (exT 97)).cells gv (.slice none 0 0));obtain⟨s,E⟩:=xq ((exn (exT 110)).cells gv (.slice none 0 0));obtain⟨au,M⟩:=xq (idA (1::List.replicate 15 0));obtain⟨pk,O⟩:=xq (pkC 1 (List.replicate 16 0));obtain⟨c0,N⟩:=xq (cn0.cells (.slice none 0 0) (.slice none 0 0));obtain⟨J,R⟩:=xq (idA zero32);have BA:Hid (∀w,(Instr.build 35 #[(0,.int .u8 1)]).run prog w=.ok (.agg au) w):=Hd (fun w=>by rw[M];exact Yam w);have BP:Hid (∀w,(Instr.build 37 #[(0,.int .i64 1)]).run prog w=.ok (.agg pk) w):=Hd (fun w=>by rw[O];exact Yl4 w);have BC:Hid (∀w,(Instr.build 39 #[(0,.string ⟨#[65,110,110]⟩),(1,.agg au),(3,gv),(4,.string ⟨#[116,101,97]⟩),(10,.agg pk)]).run prog w=.ok (.agg f) w):=Hd (fun w=>by rw[M,O,d,j];exact Yfa w g);have AC:Hid (∀(o:Oper) (a:Act) (w:World),o.op=.alloc 39→(execOp a.eval o).run prog w=.ok (.value (.pointer (some ⟨w.heap.size,0,none⟩))) (w.alloc (.cells c0 39))):=Hd (fun o a w h=>by rw[N];exact Xsk w h);have AI:Hid (∀(o:Oper) (a:Act) (w:World),o.op=.alloc 26→(execOp a.eval o).run prog w=.ok (.value (.pointer (some ⟨w.heap.size,0,none⟩))) (w.alloc (.cells J 26))):=Hd (fun o a w h=>by rw[R];exact Xsj w h);obtain⟨w1,z⟩:=xq (w.alloc (.cells #[.string ⟨#[97,46,98]⟩] 9));obtain⟨S,A⟩:=xq (w1.alloc (.cells c0 39));obtain⟨p,hp⟩:=xq w1.heap.size;have pg:p=g+1:=by rw[hp,z,H];simp
 have G1:w1.heap[g]?=some (.cells #[.string ⟨#[97,46,98]⟩] 9 (0,0)):=by rw[z,H];exact heap_alloc_last w _
 have G2:S.heap[g]?=some (.cells #[.string ⟨#[97,46,98]⟩] 9 (0,0)):=by rw[A];exact Xad G1
 have P2:S.heap[p]?=some (.cells c0 39 (0,0)):=by rw[A,hp];exact heap_alloc_last w1 _
 have B1:Below g w w1:=by rw[z,H];exact(zR _ _).alloc (zL _) _
 have B2:Below g w S:=by rw[A];exact B1.alloc (by rw[←hp];omega) _
 have G:f.size=75:=by rw[d];exact Xci (Ybj _) _ _
 have aL:s.size=75:=by rw[E];exact Xci (Ybj _) _ _
 have aK:c0.size=75:=by rw[N];exact Xci Xu9 _ _
 have aG:f.all (·.oneCell')=true:=by rw[d,j];exact Xhr _ _ _ rfl rfl
 have ST:=Hd (run_storeVar_row (P:=prog) S p _ 39 _ f P2 (by rw[G];exact Xea) (by rw[G,aK]) aG);obtain⟨w3,B⟩:=xq (S.setRow p f);have P3:Hid (w3.heap[p]?=some (.cells f 39 (0,0))):=Hd (by rw[B];exact setRow_heap S p _ f _ _ P2);have G3:Hid (w3.heap[g]?=some (.cells #[.string ⟨#[97,46,98]⟩] 9 (0,0))):=Hd (by rw[B];exact(setRow_other S p g f (by omega)).trans G2);have B3:Hid (Below g w w3):=Hd (by rw[B];exact below_setRow B2 (by omega) f);have L:Hid (∀wx,wx.heap[p]?=some (.cells f 39 (0,0))→(loadVar 39 ⟨p,0,none⟩).run prog wx=.ok (.agg f) wx):=Hd (fun wx h=>run_loadVar_row wx p _ 39 _ _ _ h underlying39 rfl (by rw[G];exact Xea));have aA:Hid (∀wx,wx.heap[p]?=some (.cells s 39 (0,0))→(loadVar 39 ⟨p,0,none⟩).run prog wx=.ok (.agg s) wx):=Hd (fun wx h=>run_loadVar_row wx p _ 39 _ _ _ h underlying39 rfl (by rw[aL];exact Xea));have K:∀wx,wx.heap[g]?=some (.cells #[.string ⟨#[97,46,98]⟩] 9 (0,0))→CnIn wx (exn (exT 97)) gv (.slice none 0 0):=fun wx h=>by rw[j];exact Yhl (by decide) h
 have Z:∀wx,wx.heap[g]?=some (.cells #[.string ⟨#[97,46,98]⟩] 9 (0,0))→CnIn wx (exn (exT 110)) gv (.slice none 0 0):=fun wx h=>by rw[j];exact Yhl (by decide) h
 have D:∀wx,Below g w wx→Env wx:=fun wx c=>by rw[H] at c;exact hE.on c
 obtain⟨t,ht⟩:=xq (Xax (Xcf (exC 97)));obtain⟨F,x⟩:=xq (idA (idF (exC 97)));obtain⟨I,y⟩:=xq (idA (idF (exC 110)));have CF:Hid (∀wx,Below g w wx→wx.heap[g]?=some (.cells #[.string ⟨#[97,46,98]⟩] 9 (0,0))→Calls prog 8 #[.agg f] wx fun e w'=>e=.returned (.tuple #[.string t,.int .i64 0])∧Below wx.heap.size wx w'):=Hd (fun wx c h=>by rw[d];refine(Xuz wx _ _ _ (K wx h) (fun _=>by rw[Xw6 97 (.inl rfl)];exact Ybo 97 (.inl rfl)) (D wx c)).mono ?_;rintro e w' ⟨rfl,u⟩;rw[Xw6 97 (.inl rfl),Ybn 97 (.inl rfl),ht];exact⟨rfl,u⟩);have U:Hid (∀wx,Below g w wx→wx.heap[g]?=some (.cells #[.string ⟨#[97,46,98]⟩] 9 (0,0))→Calls prog 10 #[.agg f] wx fun e w'=>e=.returned (.tuple #[.agg F,.int .i64 0])∧Below wx.heap.size wx w'):=Hd (fun wx c h=>by
  rw[d];refine(Yax wx _ _ _ (K wx h) (fun _=>by rw[Xw6 97 (.inl rfl)];exact Ybo 97 (.inl rfl)) (D wx c)).mono ?_;rintro e w' ⟨rfl,u⟩;have e1:idV (exC 97)=idF (exC 97):=by unfold idV;rw[qP (Ybn 97 (.inl rfl))]
  rw[Xw6 97 (.inl rfl),Ybn 97 (.inl rfl),e1,x];exact⟨rfl,u⟩)
 have V:Hid (∀wx,Below g w wx→wx.heap[g]?=some (.cells #[.string ⟨#[97,46,98]⟩] 9 (0,0))→Calls prog 10 #[.agg s] wx fun e w'=>e=.returned (.tuple #[.agg I,.int .i64 0])∧Below wx.heap.size wx w'):=Hd (fun wx c h=>by
  rw[E];refine(Yax wx _ _ _ (Z wx h) (fun _=>by rw[Xw6 110 (.inr rfl)];exact Ybo 110 (.inr rfl)) (D wx c)).mono ?_;rintro e w' ⟨rfl,u⟩;have e1:idV (exC 110)=idF (exC 110):=by unfold idV;rw[qP (Ybn 110 (.inr rfl))]
  rw[Xw6 110 (.inr rfl),Ybn 110 (.inr rfl),e1,y];exact⟨rfl,u⟩)
 have aU:Hid (∀wx,(Op.equal 26 (.agg F) (.agg I)).run prog wx=.ok false wx):=Hd (fun wx=>by have e:=Yfq wx (l:=idF (exC 97)) (m:=idF (exC 110)) ⟨Xbm _,Yho _⟩ ⟨Xbm _,Yho _⟩;rw[x,y,e,zW Yn9]);have aH:F.size=32:=by rw[x,Xaf];exact Xbm _
 have aI:I.size=32:=by rw[y,Xaf];exact Xbm _
 have aJ:J.size=32:=by rw[R,Xaf];rfl
 have oA:F.all (·.oneCell')=true:=by rw[x];exact Xeh _
 have oB:I.all (·.oneCell')=true:=by rw[y];exact Xeh _
 have SI:Hid (∀(wx:World) (i:Array Value),i.size=32→i.all (·.oneCell')=true→(storeVar 26 ⟨wx.heap.size,0,none⟩ (.agg i)).run prog (wx.alloc (.cells J 26))=.ok () ((wx.alloc (.cells J 26)).setRow wx.heap.size i)∧((wx.alloc (.cells J 26)).setRow wx.heap.size i).heap[wx.heap.size]?=some (.cells i 26 (0,0))∧Below wx.heap.size wx ((wx.alloc (.cells J 26)).setRow wx.heap.size i)):=Hd (fun wx i h1 h2=>
  ⟨run_storeVar_row _ wx.heap.size _ 26 _ _ (heap_alloc_last wx _) (by rw[h1];exact Xbh) (by rw[h1,aJ]) h2,setRow_heap _ _ _ _ _ _ (heap_alloc_last wx _),below_setRow ((zR _ _).alloc (zL _) _) (zL _) _⟩)
 have LI:Hid (∀(wx:World) b (i:Array Value),i.size=32→wx.heap[b]?=some (.cells i 26 (0,0))→(loadVar 26 ⟨b,0,none⟩).run prog wx=.ok (.agg i) wx):=Hd (fun wx b i h1 h=>run_loadVar_row wx b _ 26 _ _ _ h underlying26 rfl (by rw[h1];exact Xbh));have SS:Hid (∀wx,wx.heap[p]?=some (.cells f 39 (0,0))→(storeVar 9 ⟨p,19,none⟩ (.string ⟨#[116,101,110]⟩)).run prog wx=.ok () (wx.setRow p s)):=Hd (fun wx h=>by rw[d,Ybi] at h;rw[E,Ybi];exact Xnm wx p 19 9 _ _ _ _ _ h rfl (by kernel_rfl));have HP:Hid (∀wx:World,Calls prog 24 #[.string t,.string ⟨#[110,97,109,101,32,65,110,110,10,97,117,116,104,111,114,32,48,49,48,48]⟩] wx fun e w'=>e=.returned (.bool true)∧w'=wx):=Hd (fun wx=>by have:=Xcn t ⟨#[110,97,109,101,32,65,110,110,10,97,117,116,104,111,114,32,48,49,48,48]⟩ wx;rw[ht,Ymm] at this;rw[ht];exact this);have X:=Hd aH;have Y:=Hd aI;have aN:=Hd oA;have aO:=Hd oB;have PG:=Hd pg;have W:Hid (∀wx,Below g w wx→g≤wx.heap.size):=Hd (fun wx h=>by rw[H];exact h.size);rw[←B] at ST;have aQ:=Hd z;have aR:=Hd A;have aM:=Hd j;have HG:=Hd H;have aP:=Hd hp;rw[←H];clear H hp z A B j d E M O N R ht x y G aL aK aG aH aI aJ oA oB G1 G2 P2 B1 B2 K Z D hE pg;go_enter func5,ntmps5;go_upto_region 1 with fail;refine wp_region_list ?_;simp only[];refine Xe2 35 rfl _ rfl ⟨_,_,by kernel_rfl,BA.o w,?_⟩;refine Xaz rfl (Xn8 (v:=.string ⟨#[97,46,98]⟩) w rfl rfl (Ynv w _)) ?_;rw[←aQ.o,←HG.o,←aM.o];refine Xe2 37 rfl _ rfl ⟨_,_,by kernel_rfl,BP.o w1,?_⟩;refine Xe2 39 rfl _ rfl ⟨_,_,by kernel_rfl,BC.o w1,?_⟩;refine Xaz rfl (AC.o _ _ w1 rfl) ?_;rw[←aR.o,←aP.o];refine Xaa 39 rfl _ _ rfl ⟨_,_,_,rfl,rfl,ST.o,?_⟩;clear ST BA BP BC AC;go_upto_region 2 with fail;refine wp_region_list ?_;simp only[];refine Xab 39 rfl _ rfl ⟨_,_,rfl,L.o _ P3.o,?_⟩;go_wp2_with fail;refine(CF.o w3 B3.o G3.o).mono ?_;rintro e w4 ⟨rfl,c⟩;have P4:=Hd ((c.block _ (zY P3.o)).trans P3.o);have G4:=Hd ((c.block _ (zY G3.o)).trans G3.o);have B4:=Hd (B3.o.trans (c.mono (W.o _ B3.o)));clear c B3 P3 G3 CF;go_upto_region 3 with fail;refine wp_region_list ?_;simp only[];refine Xab 39 rfl _ rfl ⟨_,_,rfl,L.o _ P4.o,?_⟩;go_wp2_with fail;refine(U.o w4 B4.o G4.o).mono ?_;rintro e w5 ⟨rfl,c⟩;have P5:=Hd ((c.block _ (zY P4.o)).trans P4.o);have G5:=Hd ((c.block _ (zY G4.o)).trans G4.o);have B5:=Hd (B4.o.trans (c.mono (W.o _ B4.o)));clear c B4 P4 G4 U L;obtain⟨T,aE⟩:=xq ((w5.alloc (.cells J 26)).setRow w5.heap.size F);have S5:=SI.o w5 F X.o aN.o;rw[←aE] at S5;have aB:=Hd S5.1;have n:=Hd S5.2;clear aE S5;go_upto_region 4 with(first
  |((with_reducible refine Xaz rfl (AI.o _ _ _ rfl) ?_))
  |((with_reducible refine Xaa 26 rfl _ _ rfl ?_);refine⟨_,_,_,rfl,rfl,aB.o,?_⟩))
 obtain⟨q,hq⟩:=xq w5.heap.size;rw[←hq];have lp:=zY P5.o;have lg:=zY G5.o;have Q6:Hid (T.heap[q]?=some (.cells F 26 (0,0))):=Hd (by rw[hq];exact n.o.1);have P6:=Hd ((n.o.2.block _ lp).trans P5.o);have G6:=Hd ((n.o.2.block _ lg).trans G5.o);have B6:=Hd (B5.o.trans (n.o.2.mono (W.o _ B5.o)));have QP:Hid (p<q∧g<q):=Hd ⟨by omega,by omega⟩;clear n aB hq lp lg P5 G5 B5;obtain⟨w7,Q⟩:=xq (T.setRow p s);have S6:=SS.o T P6.o;rw[←Q] at S6;have aC:=Hd S6;have k:=Hd Q;clear Q S6;go_upto_region 5 with((with_reducible refine Xaa 9 rfl _ _ rfl ?_);refine⟨_,_,_,rfl,rfl,aC.o,?_⟩)
 have P7:Hid (w7.heap[p]?=some (.cells s 39 (0,0))):=Hd (by rw[k.o];exact setRow_heap T p _ s _ _ P6.o);have G7:Hid (w7.heap[g]?=some (.cells #[.string ⟨#[97,46,98]⟩] 9 (0,0))):=Hd (by rw[k.o];exact(setRow_other T p g s (by have:=PG.o;omega)).trans G6.o);have Q7:Hid (w7.heap[q]?=some (.cells F 26 (0,0))):=Hd (by rw[k.o];exact(setRow_other T p q s (by have:=QP.o;omega)).trans Q6.o);have B7:Hid (Below g w w7):=Hd (by rw[k.o];exact below_setRow B6.o (by have:=PG.o;omega) s);clear k aC SS P6 G6 Q6 B6;refine wp_region_list ?_;simp only[];refine Xab 39 rfl _ rfl ⟨_,_,rfl,aA.o _ P7.o,?_⟩;go_wp2_with fail;refine(V.o w7 B7.o G7.o).mono ?_;rintro e w8 ⟨rfl,c⟩;have Q8:=Hd ((c.block _ (zY Q7.o)).trans Q7.o);have B8:=Hd (B7.o.trans (c.mono (W.o _ B7.o)));clear c B7 P7 G7 Q7 V aA;obtain⟨w9,aF⟩:=xq ((w8.alloc (.cells J 26)).setRow w8.heap.size I);have S8:=SI.o w8 I Y.o aO.o;rw[←aF] at S8;have aD:=Hd S8.1;have C:=Hd S8.2;clear aF S8;go_upto_region 6 with(first
  |((with_reducible refine Xaz rfl (AI.o _ _ _ rfl) ?_))
  |((with_reducible refine Xaa 26 rfl _ _ rfl ?_);refine⟨_,_,_,rfl,rfl,aD.o,?_⟩))
 obtain⟨r,hr⟩:=xq w8.heap.size;rw[←hr];have Q9:=Hd ((C.o.2.block _ (zY Q8.o)).trans Q8.o);have R9:w9.heap[r]?=some (.cells I 26 (0,0)):=by rw[hr];exact C.o.1
 have B9:=Hd (B8.o.trans (C.o.2.mono (W.o _ B8.o)));have aS:=Hd (LI.o w9 q F X.o Q9.o);have aT:=Hd (LI.o w9 r I Y.o R9);clear C aD hr Q8 B8 R9 Q9 SI LI AI;go_wp2_with fail;refine(HP.o w9).mono ?_;rintro e aV ⟨rfl,rfl⟩;go_wp2_with (first
  |((with_reducible refine Xc0 26 _ rfl (by kernel_rfl) ?_);first|(refine⟨_,_,rfl,aS.o,?_⟩)|(refine⟨_,_,rfl,aT.o,?_⟩))
  |((with_reducible refine Xgs 26 _ _ rfl (by kernel_rfl) Xn6 ?_);refine⟨_,_,_,rfl,rfl,aU.o _,?_⟩))
 go_ret;exact⟨rfl,B9.o⟩
theorem Xn4 (s:Nat):∀l:List (List Nat),(Xa9 [s] l).length≤(l.map List.length).sum+l.length
 |[]=>by simp[Xa9]
 |[x]=>by simp[Xa9]
 |x::y::r=>by have:=Xn4 s (y::r);simp only[Xa9,List.length_append,List.map_cons,List.sum_cons,List.length_cons,List.length_nil] at this⊢;omega
theorem Xo3 (n:Nat):∀l:List Nat,(∀x∈l,x=n)→l.sum=l.length*n
 |[],_=>by simp
 |x::l,h=>by have a:=h x (List.mem_cons_self ..);have b:=Xo3 n l (fun y hy=>h y (List.mem_cons_of_mem _ hy));rw[List.sum_cons,a,b,List.length_cons,Nat.succ_mul];omega
theorem Xw3 {c:Cn}(ok:c.Ok)(hgl:c.groups.length≤30)(hgt:tot c.groups≤100000)(hrl:c.refs.length≤30)(htx:c.name.size+c.subject.size+c.ctl.size+c.dist.size≤4000000)(hbo:c.body.size≤1000000)(h0:Xe0 c.p=0):(Xcf c.p).length≤10000000:=by
 have b:=Xvm h0;rw[Xqb];have i:c.p.name.length=c.name.size:=Xac _;have j:(Xb5 c.p.author).length=2*16:=by rw[←ok.author.len];exact Xb9 _
 have k:(Xfh c.p.date).length≤21:=Xgc b.date.1;have l:(Xa9 [44] c.p.groups).length≤tot c.groups+c.groups.length:=by have:=Xn4 44 (c.groups.map bs);rw[List.map_map,List.length_map] at this;have e:c.groups.map (List.length∘bs)=c.groups.map ByteArray.size:=List.map_congr_left (fun g _=>Xac g);rw[e] at this;exact this
 have m:c.p.subject.length=c.subject.size:=Xac _;have n:(Xa9 [32] (c.p.refs.map Xfi)).length≤c.refs.length*71+c.refs.length:=by have:=Xn4 32 (c.refs.map Xfi);rw[List.map_map,List.length_map] at this;rw[Xo3 71 (c.refs.map (List.length∘Xfi)) (fun x a=>by obtain⟨y,h,rfl⟩:=List.mem_map.1 a;exact Xhg (ok.refs y h)),List.length_map] at this;exact this
 have o:(Xlh c.p.sup).length≤71:=by
  unfold Xlh;split;·simp
  exact Nat.le_of_eq (Xhg ok.sup)
 have q:c.p.ctl.length=c.ctl.size:=Xac _;have r:c.p.dist.length=c.dist.size:=Xac _;have s:(Xun c.p).length≤1022:=by
  unfold Xun;rw[List.length_append,List.length_cons];have t:(Xfh c.p.number).length≤21:=Xgc b.number.1;have u:(Xi8 (Ylj c.p)).length≤1000:=Yhn (fun x a=>by
   unfold Ylj at a;rcases List.mem_cons.1 a with rfl|a;·omega
   exact ok.root.lt x a) (by unfold Ylj;rw[List.length_cons];show c.root.length+1=17;rw[ok.root.len])
  omega
 have d:(Xfh c.p.leaf).length≤21:=Xgc b.leaf.1;have f:c.p.body.length=c.body.size:=Xac _;omega
theorem Xw4 {c:Cn}(ok:c.Ok)(hgl:c.groups.length≤30)(hgt:tot c.groups≤3000)(hrl:c.refs.length≤30)(htx:c.name.size+c.subject.size+c.ctl.size+c.dist.size≤2000)(hbo:c.body.size≤1000000)(h0:Xe0 c.p=0):(Xcf c.p).length≤10000000:=Xw3 ok hgl (by omega) hrl (by omega) hbo h0
theorem Xqc {c:Cn}(ok:c.Ok)(hf:FitsP c)(h0:Xe0 c.p=0):(Xcf c.p).length≤10000000:=Xw4 ok hf.gl hf.gt hf.rl hf.tx (by have:=hf.body;omega) h0
theorem Yln {w w':World}{base:Nat}{c:Cn}{gv rv g1 r1:Value}(hin:CnIn w c gv rv)(o1:w'.ownsRow base 9 1 g1 c.groups.length (c.groups.map Value.string))(o2:w'.ownsRow base 26 32 r1 c.refs.length (Xa2 c.refs)):CnIn w' c g1 r1:=
 ⟨hin.ok,hin.name,hin.subject,hin.ctl,hin.dist,hin.body,hin.gl,hin.gz,hin.rl,Xnv o1,Yen hin.ok.refs o2⟩
def ldN (c:Nat):Nat:=if c<128 then 1 else if 192≤c∧c<224 then 2 else if 224≤c∧c<240 then 3 else if 240≤c∧c<248 then 4 else 0
def ldV (c:Nat):Nat:=if c<128 then c else if 192≤c∧c<224 then c-192 else if 224≤c∧c<240 then c-224 else if 240≤c∧c<248 then c-240 else 0
def bgV (l:List Nat)(k:Nat):Nat:=((l.take k).drop 1).foldl (fun v x=>64*v+(x-128)) (ldV (l.getD 0 0))
def bgC (l:List Nat)(k:Nat):Bool:=((l.take k).drop 1).all (fun x=>decide (128≤x)&&decide (x≤191))
def Xhh (n:Nat):Nat:=[0,0,128,2048,65536].getD n 0
def Xnx (n:Nat):Nat:=[0,127,2047,65535,1114111].getD n 0
def Ykg (l:List Nat):Nat:=max (bgV l l.length*64^(ldN (l.getD 0 0)-l.length)) (Xhh (ldN (l.getD 0 0)))
def Ykh (l:List Nat):Nat:=min ((bgV l l.length+1)*64^(ldN (l.getD 0 0)-l.length)-1) (Xnx (ldN (l.getD 0 0)))
def bgB (l:List Nat):Bool:=
 decide (ldN (l.getD 0 0)≠0)&&decide (l.length≤ldN (l.getD 0 0))&&bgC l l.length&&!(decide (55296≤Ykg l)&&decide (Ykh l≤57343))&&decide (Ykg l≤Ykh l)
theorem Ykf (l:List Nat):bgV l 1=ldV (l.getD 0 0):=by cases l<;>simp[bgV]
theorem Yki (l:List Nat):bgC l 1=true:=by cases l<;>simp[bgC]
theorem Xfw (l:List Nat)(n:Nat)(h1:1≤n)(h:n<l.length):(l.take (n+1)).drop 1=(l.take n).drop 1++[l.getD n 0]:=by rw[List.take_succ_eq_append_getElem h,List.drop_append_of_le_length (by rw[List.length_take];omega)];simp[List.getD,h]
theorem Ygg (l:List Nat)(n:Nat)(h1:1≤n)(h:n<l.length):bgV l (n+1)=64*bgV l n+(l.getD n 0-128):=by unfold bgV;rw[Xfw l n h1 h,List.foldl_append];rfl
theorem Ygh (l:List Nat)(n:Nat)(h1:1≤n)(h:n<l.length):bgC l (n+1)=(bgC l n&&(decide (128≤l.getD n 0)&&decide (l.getD n 0≤191))):=by unfold bgC;rw[Xfw l n h1 h,List.all_append];simp
theorem Xve (l:List Nat)(n:Nat)(h1:1≤n)(h:n<l.length)(hx:l.getD n 0<128∨191<l.getD n 0):bgC l l.length=false:=by
 unfold bgC;rw[List.all_eq_false];refine⟨l.getD n 0,?_,?_⟩;·rw[List.take_length,List.mem_drop_iff_getElem];refine⟨n-1,by omega,?_⟩;simp[List.getD,h,show 1+(n-1)=n by omega]
 simp only[Bool.and_eq_true,decide_eq_true_eq];omega
theorem Xc3 (f i c:Nat):Xgv f i c=true↔(128≤c∧c≤191∧(i=1→(f=224→160≤c)∧(f=240→144≤c)∧(f=237→c≤159)∧(f=244→c≤143))):=by
 unfold Xgv;simp only[Bool.and_eq_true,decide_eq_true_eq];by_cases h1:i=1
 ·subst h1;simp only[true_and,true_implies]
  (repeat' split)<;>omega
 rw[qN (fun h=>h1 h.1),qN (fun h=>h1 h.1),qN (fun h=>h1 h.1),qN (fun h=>h1 h.1)];simp only[h1,false_implies,and_true]
theorem Ym2:∀c,c<256→(bgB [c]=decide (Xgf c≠0))∧(Xgf c≠0→ldN c=Xgf c):=by decide+kernel
theorem Xvu {c:Nat}:(Xgf c=1→c≤127)∧(Xgf c=2→194≤c∧c≤223)∧(Xgf c=3→224≤c∧c≤239)∧(Xgf c=4→240≤c∧c≤244):=by
 unfold Xgf
 (repeat' split)<;>omega
theorem Yke (l:List Nat)(hb:∀x∈l,x<256)(h0:Xgf (l.getD 0 0)≠0)(hl:l.length=Xgf (l.getD 0 0)):bgB l=Xb8 l∧(Xb8 l=true→bgV l l.length=cpt l):=by
 have j:=Xvu (c:=l.getD 0 0)
 match l,hb,h0,hl,j with
 |[],_,_,hl,_=>simp[Xgf] at hl
 |[a],hb,h0,hl,j=>
  simp only[List.getD_cons_zero,List.length_cons,List.length_nil,Nat.zero_add] at*;have o:=j.1 hl.symm;have k:ldN a=1:=by unfold ldN;rw[qP (by omega)]
  have f:ldV a=a:=by unfold ldV;rw[qP (by omega)]
  have g:Xb8 [a]=true:=by rw[Xcd];simp[←hl];omega
  refine⟨?_,fun _=>?_⟩;·rw[g];simp[bgB,Ykg,Ykh,bgV,bgC,k,f,Xhh,Xnx];omega
  simp[cpt,bgV,f,(Xfq g).1,←hl]
 |[a,b],hb,h0,hl,j=>
  simp only[List.getD_cons_zero,List.length_cons,List.length_nil,Nat.zero_add] at*;have o:=j.2.1 hl.symm;have k:ldN a=2:=by unfold ldN;rw[qN (by omega),qP (by omega)]
  have f:ldV a=a-192:=by unfold ldV;rw[qN (by omega),qP (by omega)]
  have g:Xb8 [a,b]=true↔128≤b∧b≤191:=by
   rw[Xcd];simp only[List.getD_cons_zero,List.length_cons,List.length_nil,Nat.zero_add,←hl];constructor;·rintro⟨_,_,h⟩;have:=h 1 (by omega) (by omega);simp[Xc3] at this;omega
   intro h;refine⟨by omega,by omega,fun i m n=>?_⟩;obtain rfl:i=1:=by omega
   simp[Xc3];omega
  refine⟨?_,fun h=>?_⟩;·rw[Bool.eq_iff_iff,g];simp[bgB,Ykg,Ykh,bgV,bgC,k,f,Xhh,Xnx];omega
  have:=g.1 h;simp[cpt,bgV,f,(Xfq h).1,←hl];omega
 |[a,b,c],hb,h0,hl,j=>
  simp only[List.getD_cons_zero,List.length_cons,List.length_nil,Nat.zero_add] at*;have o:=j.2.2.1 hl.symm;have k:ldN a=3:=by unfold ldN;rw[qN (by omega),qN (by omega),qP (by omega)]
  have f:ldV a=a-224:=by unfold ldV;rw[qN (by omega),qN (by omega),qP (by omega)]
  have g:Xb8 [a,b,c]=true↔128≤b∧b≤191∧128≤c∧c≤191∧(a=224→160≤b)∧(a=237→b≤159):=by
   rw[Xcd];simp only[List.getD_cons_zero,List.length_cons,List.length_nil,Nat.zero_add,←hl];constructor;·rintro⟨_,_,h⟩;have m:=h 1 (by omega) (by omega);have n:=h 2 (by omega) (by omega);simp[Xc3] at m n;omega
   intro h;refine⟨by omega,by omega,fun i m n=>?_⟩;rcases(by omega:i=1∨i=2) with rfl|rfl;·simp[Xc3];omega
   simp[Xc3];omega
  refine⟨?_,fun h=>?_⟩;·rw[Bool.eq_iff_iff,g];simp[bgB,Ykg,Ykh,bgV,bgC,k,f,Xhh,Xnx];omega
  have:=g.1 h;simp[cpt,bgV,f,(Xfq h).1,←hl];omega
 |[a,b,c,d],hb,h0,hl,j=>
  simp only[List.getD_cons_zero,List.length_cons,List.length_nil,Nat.zero_add] at*;have o:=j.2.2.2 hl.symm;have k:ldN a=4:=by unfold ldN;rw[qN (by omega),qN (by omega),qN (by omega),qP (by omega)]
  have f:ldV a=a-240:=by unfold ldV;rw[qN (by omega),qN (by omega),qN (by omega),qP (by omega)]
  have g:Xb8 [a,b,c,d]=true↔128≤b∧b≤191∧128≤c∧c≤191∧128≤d∧d≤191∧(a=240→144≤b)∧(a=244→b≤143):=by
   rw[Xcd];simp only[List.getD_cons_zero,List.length_cons,List.length_nil,Nat.zero_add,←hl];constructor;·rintro⟨_,_,h⟩;have m:=h 1 (by omega) (by omega);have n:=h 2 (by omega) (by omega);have p:=h 3 (by omega) (by omega);simp[Xc3] at m n p;omega
   intro h;refine⟨by omega,by omega,fun i m n=>?_⟩;rcases(by omega:i=1∨i=2∨i=3) with rfl|rfl|rfl;·simp[Xc3];omega
   ·simp[Xc3];omega
   simp[Xc3];omega
  refine⟨?_,fun h=>?_⟩;·rw[Bool.eq_iff_iff,g];simp[bgB,Ykg,Ykh,bgV,bgC,k,f,Xhh,Xnx];omega
  have:=g.1 h;simp[cpt,bgV,f,(Xfq h).1,←hl];omega
 |a::b::c::d::e::l,_,_,hl,_=>have:=Xjv ((a::b::c::d::e::l).getD 0 0);rw[←hl] at this;simp at this
theorem Yfo (l:List Nat)(hb:∀x∈l,x<256)(n:Nat)(hn:n=Xgf (l.getD 0 0))(h0:n≠0)(hl:n≤l.length):bgB (l.take n)=decide (rn l≠0)∧(rn l≠0→bgV (l.take n) n=cpt l∧rn l=n):=by
 have j:∀i,i<n→(l.take n).getD i 0=l.getD i 0:=fun i hi=>by simp[List.getD,hi]
 have h:=j 0 (by omega);have d:(l.take n).length=n:=by rw[List.length_take];omega
 have o:Xb8 (l.take n)=Xb8 l:=by
  rw[Bool.eq_iff_iff,Xcd,Xcd,h,d,←hn];constructor;·rintro⟨a,b,c⟩;exact⟨a,hl,fun i g e=>by rw[←j i e];exact c i g e⟩
  rintro⟨a,b,c⟩;exact⟨a,zL _,fun i g e=>by rw[j i e];exact c i g e⟩
 obtain⟨g,e⟩:=Yke (l.take n) (fun x hx=>hb x (List.mem_of_mem_take hx)) (by rw[h];omega) (by rw[h,d,hn]);rw[o] at g e;refine⟨?_,fun hr=>?_⟩;·rw[g,Bool.eq_iff_iff,decide_eq_true_eq,rn_ne]
 have f:=rn_ne.1 hr;have k:rn l=n:=by rw[(Xfq f).1,hn]
 have p:rn (l.take n)=n:=by rw[(Xfq (o.trans f)).1,h,hn]
 have m:=e f;rw[d] at m;refine⟨m.trans ?_,k⟩;unfold cpt;rw[k,p,h,List.take_take,Nat.min_self]
theorem Yd1 (l:List Nat)(h:l.length<Xgf (l.getD 0 0)):rn l=0:=Xj8 (Xja l (fun h'=>by omega))
theorem Yd2 (l:List Nat)(h:Xgf (l.getD 0 0)=0):rn l=0:=Xj8 (Xja l (fun h'=>h'.1 h))
theorem Ye6 (w:World)(c:Nat)(hc:c<256):Rx 218 #[.int .u8 (c:Int)] w (.tuple #[.int .i64 (ldN c:Int),.int .i64 (ldV c:Int)]):=by
 have g:c<128∨(128≤c∧c<192)∨(192≤c∧c<224)∨(224≤c∧c<240)∨(240≤c∧c<248)∨248≤c:=by omega
 have b:ldN c=if c<128 then 1 else if 192≤c∧c<224 then 2 else if 224≤c∧c<240 then 3 else if 240≤c∧c<248 then 4 else 0:=rfl
 have d:ldV c=if c<128 then c else if 192≤c∧c<224 then c-192 else if 224≤c∧c<240 then c-224 else if 240≤c∧c<248 then c-240 else 0:=rfl
 have e:=Hd b;have f:=Hd d;clear b d;rcases g with h|⟨h,a⟩|⟨h,a⟩|⟨h,a⟩|⟨h,a⟩|h
 all_goals
  go_enter func218,ntmps218;go_wp2_with fail;go_ret2;refine⟨?_,rfl⟩;rw[e.o,f.o]
  first
   |rw[qP (by omega),qP (by omega)];rfl
   |rw[qN (by omega),qP (by omega),qN (by omega),qP (by omega)];simp;omega
   |rw[qN (by omega),qN (by omega),qP (by omega),qN (by omega),qN (by omega),qP (by omega)];simp;omega
   |rw[qN (by omega),qN (by omega),qN (by omega),qP (by omega),qN (by omega),qN (by omega),qN (by omega),qP (by omega)];simp;omega
   |rw[qN (by omega),qN (by omega),qN (by omega),qN (by omega),qN (by omega),qN (by omega),qN (by omega),qN (by omega)];rfl
theorem Yaf (w:World)(n:Nat)(hn:n≤4):zJ 219 #[.int .i64 (n:Int)] w (.int .i64 (Xhh n:Int)):=by
 rcases(by omega:n=0∨n=1∨n=2∨n=3∨n=4) with rfl|rfl|rfl|rfl|rfl
 all_goals
  go_enter func219,ntmps219;go_wp2_with fail;go_ret;exact⟨rfl,(zR _ _).alloc (zL _) _⟩
theorem Yex (w:World)(n:Nat)(hn:n≤4):zJ 220 #[.int .i64 (n:Int)] w (.int .i64 (Xnx n:Int)):=by
 rcases(by omega:n=0∨n=1∨n=2∨n=3∨n=4) with rfl|rfl|rfl|rfl|rfl
 all_goals
  go_enter func220,ntmps220;go_wp2_with fail;go_ret;exact⟨rfl,(zR _ _).alloc (zL _) _⟩
theorem Xt7 (w:World)(n:Nat):Rx 68 #[.int .i64 (n:Int)] w (.bool (Xu8 n)):=by
 obtain⟨b,a⟩:=xq (Xu8 n);rw[←a];have c:=Hd a;clear a;rcases(by omega:n<32∨(32≤n∧n<127)∨(127≤n∧n≤159)∨(n=8232)∨(n=8233)∨(159<n∧n≠8232∧n≠8233)) with h|⟨h,h2⟩|⟨h,h2⟩|rfl|rfl|⟨h,h2,h3⟩
 all_goals
  try have d:((n:Int)==8232)=false:=Xar (by omega)
  try have e:((n:Int)==8233)=false:=Xar (by omega)
  go_enter func68,ntmps68;go_wp2_with fail;go_ret;exact⟨Xa5 (by rw[c.o,Bool.eq_iff_iff];simp[Xu8];try omega),rfl⟩
theorem Xg4 (s:ByteArray)(w:World)(q:Int)(k:Nat)(hq:q=(k:Int))(hk:k<s.size)(x:Nat)(hx:x=(bs s).getD k 0):(Instr.index 9 (.string s) (.int .i64 q)).run prog w=.ok (.int .u8 (x:Int)) w:=by rw[Xbj 9 underlying9 s .i64 q k hq hk,hx]
def Xvl (l:List Nat)(w:World)(e:Ending)(w':World):Prop:=
 ∃n v:Nat,e=.returned (.tuple #[.bool (bgB l),.int .i64 (n:Int),.int .i64 (v:Int)])∧(bgB l=true→n=ldN (l.getD 0 0)∧v=bgV l l.length)∧Bw w w'
theorem Xik (s:ByteArray)(w:World)(h0:0<s.size)(h4:s.size≤4):Calls prog 165 #[.string s] w (Xvl (bs s) w):=by
 obtain⟨c,D⟩:=xq ((bs s).getD 0 0);have H:c<256:=by rw[D];exact Xbd s 0
 have x0:=Yc5 s c D h0;obtain⟨n,J⟩:=xq (ldN c);obtain⟨U,r⟩:=xq (ldV c);have K:n≤4:=by rw[J];unfold ldN;(repeat' split)<;>omega
 have aC:U<128:=by rw[r];unfold ldV;(repeat' split)<;>omega
 have E:=Hd (Ye6 · c H);rw[←J,←r] at E;obtain⟨B,M⟩:=xq (bgB (bs s));have l:Hid (B=(decide (n≠0)&&decide (s.size≤n)&&bgC (bs s) s.size&&!(decide (55296≤max (bgV (bs s) s.size*64^(n-s.size)) (Xhh n))&&decide (min ((bgV (bs s) s.size+1)*64^(n-s.size)-1) (Xnx n)≤57343))&&decide (max (bgV (bs s) s.size*64^(n-s.size)) (Xhh n)≤min ((bgV (bs s) s.size+1)*64^(n-s.size)-1) (Xnx n)))):=Hd (by rw[M];unfold bgB Ykg Ykh;rw[←D,←J,Xac]);have g:Hid (∀(b:Bool) (a v:Nat) (w':World),b=B→(B=true→a=n∧v=bgV (bs s) s.size)→Bw w w'→Xvl (bs s) w (.returned (.tuple #[.bool b,.int .i64 (a:Int),.int .i64 (v:Int)])) w'):=Hd (by rintro b a v w' rfl h1 h2;exact⟨a,v,by rw[M],fun h=>by rw[←D,←J,Xac];exact h1 (M.trans h),h2⟩);have Z:Hid (bgV (bs s) 1=U):=Hd (by rw[Ykf,←D,←r]);clear J r M D H;by_cases n0:n=0
 ·have z1:((n:Int)==0)=true:=Xa8 (by omega);go_enter func165,ntmps165;go_wp2_with (go_at_call 218;refine(E.o _).mono ?_;rintro e w' ⟨rfl,rfl⟩)
  go_ret3;exact g.o false 0 0 _ (by rw[l.o];simp[n0]) (fun h=>by rw[l.o] at h;simp[n0] at h) (zR _ _)
 have z1:((n:Int)==0)=false:=Xar (by omega);by_cases hgt:n<s.size
 ·go_enter func165,ntmps165;go_wp2_with (go_at_call 218;refine(E.o _).mono ?_;rintro e w' ⟨rfl,rfl⟩)
  go_ret3;have p:decide (s.size≤n)=false:=by simp;omega
  exact g.o false 0 0 _ (by rw[l.o,p];simp) (fun h=>by rw[l.o,p] at h;simp at h) (zR _ _)
 go_enter func165,ntmps165;go_wp2_with (go_at_call 218;refine(E.o _).mono ?_;rintro e w' ⟨rfl,rfl⟩)
 go_loopg [6,7] s.size (fun k v i wr=>∃j f:Nat,1≤j∧j≤s.size∧k=s.size+1-j∧i=.int .i64 (j:Int)∧v=.int .i64 (f:Int)∧Hid (f=bgV (bs s) j)∧Hid (bgC (bs s) j=true)∧((j=1∧f<128)∨(j=2∧f<8192)∨(j=3∧f<524288)∨(j=4∧f<33554432))∧Hid (Dr w wr));exact⟨1,U,by omega,by omega,by omega,rfl,rfl,Hd Z.o.symm,Hd (Yki _),by omega,Hd (Dr.refl _)⟩;obtain⟨j,f,O,j2,rfl,rfl,rfl,hv,z,hd,d⟩:=hrel;have aE:f<33554432:=by omega
 by_cases hlt:j<s.size
 ·obtain⟨x,N⟩:=xq ((bs s).getD j 0);have aD:x<256:=by rw[N];exact Xbd s j
  have y1:=fun w=>Xg4 s w j j rfl hlt x N;have L:=Hd N;clear N;by_cases hlo:x<128;·go_wp2_with fail;go_ret3;have p:=Xve (bs s) j O (by rw[Xac];exact hlt) (by rw[←L.o];omega);rw[Xac] at p;exact g.o false 0 0 _ (by rw[l.o,p];simp) (fun h=>by rw[l.o,p] at h;simp at h) (Dr.below (by(first|exact d.o|exact d.o.drewN _)))
  by_cases hhi:191<x;·go_wp2_with fail;go_ret3;have p:=Xve (bs s) j O (by rw[Xac];exact hlt) (by rw[←L.o];omega);rw[Xac] at p;exact g.o false 0 0 _ (by rw[l.o,p];simp) (fun h=>by rw[l.o,p] at h;simp at h) (Dr.below (by(first|exact d.o|exact d.o.drewN _)))
  go_wp2_with fail;go_roundg (s.size+1-(j+1));exact⟨j+1,64*f+(x-128),by omega,by omega,rfl,by go_num,by go_num,Hd (by rw[Ygg _ _ O (by rw[Xac];exact hlt),←L.o,hv.o]),Hd (by rw[Ygh _ _ O (by rw[Xac];exact hlt),←L.o,z.o];simp;omega),by omega,(by(first|exact d|exact Hd (d.o.drewN _)))⟩;omega
 obtain rfl:j=s.size:=by omega
 have d0:(f<128*64^3):=by omega
 clear d0;go_wp2_with fail;go_loopg [8,9,10] n (fun k lo hi i wr=>∃q a b:Nat,q+s.size≤n∧k=n-q∧i=.int .i64 ((s.size+q:Nat):Int)∧lo=.int .i64 (a:Int)∧hi=.int .i64 (b:Int)∧Hid (a=f*64^q)∧Hid (b+1=(f+1)*64^q)∧((q=0∧b<33554432)∨(q=1∧b<2147483648)∨(q=2∧b<137438953472)∨(q=3∧b<8796093022208))∧a≤b∧Hid (Dr w wr));exact⟨0,f,f,by omega,by omega,by go_num,rfl,rfl,Hd (by simp),Hd (by simp),by omega,by omega,(by(first|exact d|exact Hd (d.o.drewN _)))⟩;obtain⟨q,a,b,hq,rfl,rfl,rfl,rfl,Q,R,S,aB,m⟩:=hrel;have aA:b<8796093022208:=by omega
 by_cases hql:q+s.size<n;·go_wp2_with fail;go_roundg (n-(q+1));exact⟨q+1,64*a,64*b+63,by omega,rfl,by go_num,by go_num,by go_num,Hd (by rw[Q.o,Nat.pow_succ,Nat.mul_comm 64 (f*64^q),Nat.mul_assoc]),Hd (by rw[Nat.pow_succ,←Nat.mul_assoc,←R.o];omega),by omega,by omega,(by(first|exact m|exact Hd (m.o.drewN _)))⟩;omega
 have T:q=n-s.size:=by omega
 have X:=Hd (Yaf · n K);have Y:=Hd (Yex · n K);obtain⟨C,u⟩:=xq (Xhh n);obtain⟨A,t⟩:=xq (Xnx n);rw[←u] at X l;rw[←t] at Y l;have y:Hid (B=(!(decide (55296≤max a C)&&decide (min b A≤57343))&&decide (max a C≤min b A))):=Hd (by rw[l.o,←T,z.o,←hv.o,←Q.o,←R.o,Nat.add_sub_cancel];rw[zT n0,zT (show s.size≤n by omega)];simp);have HV:=Hd hv.o.symm;clear l u t Q R z hv Z E x0 hd d S;go_wp2_with fail;refine(X.o _).mono ?_;rintro e w2 ⟨rfl,F⟩;have V:=Hd (F);clear F;by_cases hm:a<C
 all_goals
  go_wp2_with fail;refine(Y.o _).mono ?_;rintro e w3 ⟨rfl,G⟩;have P:=Dr.below m.o;have W:=Hd (P.trans ((bg V.o G).mono P.size));clear P;clear G V;rcases Nat.lt_trichotomy b A with I|I|I
  all_goals
   go_wp2_with fail
   all_goals
    go_ret3
    first
     |exact g.o true n f _ (by rw[y.o];simp;omega) (fun _=>⟨rfl,HV.o.symm⟩) W.o
     |exact g.o false 0 0 _ (by rw[y.o];simp;omega) (fun h=>by rw[y.o] at h;simp at h;omega) W.o
def Ykv (l:List Nat)(w:World)(e:Ending)(w':World):Prop:=
 ∃r n er:Nat,e=.returned (.tuple #[.int .i64 (r:Int),.int .i64 (n:Int),.int .i64 (er:Int)])∧(rn l≠0→r=cpt l∧n=rn l∧er=0)∧(rn l=0→er≠0)∧Bw w w'
theorem Ybe (s:ByteArray)(w:World)(h0:0<s.size)(hs:s.size≤maxLen):Calls prog 117 #[.string s] w (Ykv (bs s) w):=by
 unfold maxLen at hs;obtain⟨c,v⟩:=xq ((bs s).getD 0 0);have I:c<256:=by rw[v];exact Xbd s 0
 have F:bs (s.extract 0 1)=[c]:=by
  rw[Yka,v];have:0<(bs s).length:=by rw[Xac];exact h0
  cases h:bs s with
  |nil=>rw[h] at this;cases this
  |cons x l=>simp
 have J:(s.extract 0 1).size=1:=by rw[ByteArray.size_extract];omega
 have m:=Hd (Xik (s.extract 0 1) w (by omega) (by omega));rw[F] at m;obtain⟨n,i⟩:=xq (Xgf c);have T:n≤4:=by rw[i];exact Xjv c
 obtain⟨B,G⟩:=Ym2 c I;have u:n=Xgf ((bs s).getD 0 0):=by rw[i,v]
 by_cases n0:n=0
 ·have E:Hid (rn (bs s)=0):=Hd (Yd2 _ (by rw[←u];exact n0));have k:bgB [c]=false:=by rw[B,←i,n0];rfl
  clear i u B G v F J;go_enter func117,ntmps117;go_wp2_with fail;refine m.o.mono ?_;rintro e w1 ⟨a,b,rfl,f,d⟩;rw[k];have p:=Hd d;clear d f m k;go_wp2_with fail;go_ret3;exact⟨0,0,6,rfl,(fun h=>absurd E.o h),(fun _=>by decide),p.o⟩
 have k:bgB [c]=true:=by rw[B,←i];exact zT n0
 have D:ldN c=n:=by rw[G (by rw[←i];exact n0),i]
 by_cases hl:n≤s.size
 ·have X:(s.extract 0 n).size=n:=by rw[ByteArray.size_extract];omega
  have t:Hid (∀w,Calls prog 165 #[.string (s.extract 0 n)] w (Xvl ((bs s).take n) w)):=Hd (fun w=>by have:=Xik (s.extract 0 n) w (by omega) (by omega);rw[Yka] at this;exact this);obtain⟨M,N⟩:=Yfo (bs s) (fun x f=>Xhs s x f) n u n0 (by rw[Xac];exact hl);have P:((bs s).take n).length=n:=by rw[List.length_take,Xac];omega
  have C:=Hd (And.intro M N);have K:=Hd P;have U:(n:Int)≤(s.size:Int):=by omega
  obtain⟨W,A⟩:=xq ((bs s).take n);rw[←A] at t C K;obtain⟨r,j⟩:=xq (decide (rn (bs s)≠0));have H:=Hd j;have q:=Hd D;have g:=Hd k;clear i u B G v F J M N P A j D k;go_enter func117,ntmps117;go_wp2_with fail;refine m.o.mono ?_;rintro e w1 ⟨a,b,rfl,f,d⟩;obtain⟨z,_⟩:=f g.o;rw[g.o];rw[show([c]:List Nat).getD 0 0=c from rfl,q.o] at z;subst z;have p:=Hd d;clear d f m;go_wp2_with fail;refine(t.o _).mono ?_;rintro e V ⟨R,L,rfl,f,d⟩;have y:=bh p d;have Q:=Hd f;clear d f t p;rw[C.o.1,←H.o];cases r;·go_wp2_with fail;go_ret3;exact⟨0,0,3,rfl,(fun h=>absurd (of_decide_eq_false H.o.symm) (fun h'=>h' h)),(fun _=>by decide),y.o⟩
  go_wp2_with fail;go_ret3;have j:=of_decide_eq_true H.o.symm;have O:=C.o.2 j;have S:=Q.o (by rw[C.o.1];exact zT j);exact⟨L,a,0,rfl,(fun _=>⟨by rw[S.2,K.o];exact O.1,O.2.symm,rfl⟩),(fun h=>absurd h j),y.o⟩
 have t:Hid (∀w,Calls prog 165 #[.string s] w (Xvl (bs s) w)):=Hd (fun w=>Xik s w h0 (by omega));have E:Hid (rn (bs s)=0):=Hd (Yd1 _ (by rw[Xac,←u];omega));have q:=Hd D;have g:=Hd k;clear i u B G v F J D k;go_enter func117,ntmps117;go_wp2_with fail;refine m.o.mono ?_;rintro e w1 ⟨a,b,rfl,f,d⟩;obtain⟨z,_⟩:=f g.o;rw[g.o];rw[show([c]:List Nat).getD 0 0=c from rfl,q.o] at z;subst z;have p:=Hd d;clear d f m;go_wp2_with fail;refine(t.o _).mono ?_;rintro e V ⟨R,L,rfl,f,d⟩;have y:=bh p d;clear d f t p;obtain⟨r,j⟩:=xq (bgB (bs s));rw[←j];clear j;cases r;·go_wp2_with fail;go_ret3;exact⟨0,0,3,rfl,(fun h=>absurd E.o h),(fun _=>by decide),y.o⟩
 go_wp2_with fail;go_ret3;exact⟨0,0,23,rfl,(fun h=>absurd E.o h),(fun _=>by decide),y.o⟩
theorem Yn3:(prog.info? 3).map (fun i=>(i.zero,i.size,i.bytes))=some (some (.int .i64 0),1,8):=by kernel_rfl
def NRow (w:World)(v:Value)(ns:List Nat):Prop:=
 ∃a cap,v=.slice a ns.length cap∧ns.length≤cap∧(ns≠[]→∃b off,a=some ⟨b,off,none⟩∧b<w.heap.size∧∀j (h:j<ns.length),w.cell? ⟨b,off+j,none⟩=some (.int .i64 (ns[j]:Int)))
def nV (n:Nat):Value:=.int .i64 (n:Int)
theorem Xuc {w:World}{base:Nat}{v:Value}{ns:List Nat}(h:w.ownsRow base 3 1 v ns.length (ns.map nV)):NRow w v ns:=by
 rcases h.2 with⟨rfl,h0⟩|⟨g,cap,cur,rfl,hb,hg,hc,_,hs,ht⟩;·exact⟨none,0,by rw[h0],by rw[h0];exact zL _,fun hne=>absurd (List.length_eq_zero_iff.1 h0) hne⟩
 refine⟨some ⟨g,0,none⟩,cap,rfl,hc,fun _=>⟨g,0,rfl,zY hg,fun j hj=>?_⟩⟩;rw[Nat.zero_add,cell_of_row w g j _ _ _ hg];have a:(cur.toList.take (ns.length*1))[j]?=some (.int .i64 (ns[j]:Int)):=by rw[ht];simp[hj,nV]
 rw[List.getElem?_take,qP (by omega)] at a;simpa using a
theorem NRow.below {w w':World}{v:Value}{ns:List Nat}(h:NRow w v ns)(hb:Bw w w'):NRow w' v ns:=by obtain⟨a,cap,d,e,f⟩:=h;refine⟨a,cap,d,e,fun hne=>?_⟩;obtain⟨b,off,g,c,i⟩:=f hne;exact⟨b,off,g,Nat.lt_of_lt_of_le c hb.size,fun j hj=>(hb.cell (p:=⟨b,off+j,none⟩) c).trans (i j hj)⟩
theorem Xq0 {P:Program}(w:World)(base:Nat)(t ty e:TypeId)(i:TypeInfo)(z:Value)(size bytes:Nat)(ht:P.underlying t=some (.slice e))(hi:P.info? e=some i)(hz:i.zero=some z) (hsize:i.size=size) (hby:i.bytes=bytes) (v:Value) (n:Nat) (xs:List Value) (hown:w.ownsRow base e size v n xs) (a:Addr) (m c:Nat) (news:List Value) (hl:news.length=m*size) (hnews:∀j u,news[j]?=some u→w.cell? (a.add j)=some u) (h1:∀u∈news,u.oneCell'=true) (h63:n+m≤maxLen) (hbytes:(n+m)*bytes≤140737488355328) (hm:0<m) (v':Value) (w':World) (hr:(Builtin.append_ #[t,t] ty #[v,.slice (some a) m c]).run P w=.ok v' w'):∀k,v'.ownBlock=some k→v.ownBlock=some k∨w.heap.size≤k:=by
 subst hsize;subst hby;have f:n+m≤9223372036854775807:=by simp only[maxLen] at h63;omega
 rcases hown.2 with⟨rfl,rfl⟩|⟨g,cap,cur,rfl,hbg,hg,hnc,hcm,hcs,htake⟩;·have h:=run_append_nil (P:=P) w t ty e i z ht hi hz a m c news hl hnews hm (by omega) (by have l:=hbytes;simp only[Nat.zero_add] at l;omega);rw[h] at hr;cases hr;intro k d;simp[Value.ownBlock] at d;exact .inr (by omega)
 by_cases hroom:n+m≤cap
 ·have b:n*i.size+news.length≤cur.size:=by rw[hl,hcs,←Nat.add_mul];exact Nat.mul_le_mul_right _ hroom
  have h:=run_append_room (P:=P) w t ty e i ht hi g n cap cur hg a m c news hl hnews h1 hroom b;rw[h] at hr;cases hr;exact fun k d=>.inl d
 have h:=run_append_grow (P:=P) w t ty e i z ht hi hz ⟨g,0,none⟩ n cap xs hown.1 (hown.cells (g:=g) rfl) a m c news hl hnews (by omega) (by omega) (growslice_fits (by omega) hbytes);rw[h] at hr;cases hr;intro k d;simp[Value.ownBlock] at d;exact .inr (by omega)
structure TA (w:World) (u1 u2:Value) (n1 n2:Nat) (xs1 xs2:List Value) (W:World):Prop where
 r1:W.ownsRow w.heap.size 3 1 u1 n1 xs1
 r2:W.ownsRow w.heap.size 3 1 u2 n2 xs2
 sep:∀k,u1.ownBlock=some k→u2.ownBlock≠some k
 bel:Bw w W
theorem TA.alloc {w:World}{u1 u2:Value}{n1 n2:Nat}{xs1 xs2:List Value}{W:World}(h:TA w u1 u2 n1 n2 xs1 xs2 W)(o:Obj):TA w u1 u2 n1 n2 xs1 xs2 (W.alloc o):=⟨h.r1.alloc o,h.r2.alloc o,h.sep,h.bel.alloc h.bel.size o⟩
theorem TA.symm {w:World}{u1 u2:Value}{n1 n2:Nat}{xs1 xs2:List Value}{W:World}(h:TA w u1 u2 n1 n2 xs1 xs2 W):TA w u2 u1 n2 n1 xs2 xs1 W:=⟨h.r2,h.r1,fun k h1 h2=>h.sep k h2 h1,h.bel⟩
theorem TA.app {w:World}{u1 u2:Value}{n1 n2:Nat}{xs1 xs2:List Value}{W:World}(h:TA w u1 u2 n1 n2 xs1 xs2 W)(hn:n1≤100000000)(q:Nat)(x:Value)(hx:x.oneCell'=true)(hq:W.heap[q]?=some (.cells #[x] 3 (0,0))):∃v' W',(Builtin.append_ #[114,114] 114 #[u1,.slice (some ⟨q,0,none⟩) 1 1]).run prog W=.ok v' W'∧TA w v' u2 (n1+1) n2 (xs1++[x]) xs2 W'∧(∀k,k<W.heap.size→u1.ownBlock≠some k→W'.heap[k]?=W.heap[k]?):=by
 obtain⟨n,c,d,f,g⟩:=info_parts Yn3;have a:∀(j:Nat) u,[x][j]?=some u→W.cell? ((⟨q,0,none⟩:Addr).add j)=some u:=World.news_of_block (cs:=#[x]) (t:=3) (fr:=(0,0)) hq;have b:n1+1≤maxLen:=by unfold maxLen;omega
 obtain⟨v',w',m,p,i,s⟩:=run_append_own (P:=prog) W w.heap.size 114 114 3 n (.int .i64 0) 1 8 underlying114 c d f g rfl (by decide) u1 n1 xs1 h.r1 ⟨q,0,none⟩ 1 1 [x] rfl a (by simpa using hx) b (by omega) h.bel.size;have r:=Xq0 (P:=prog) W w.heap.size 114 114 3 n (.int .i64 0) 1 8 underlying114 c d f g u1 n1 xs1 h.r1 ⟨q,0,none⟩ 1 1 [x] rfl a (by simpa using hx) b (by omega) (by omega) v' w' m;have o:u2.ownBlock=none∨u2.ownBlock≠u1.ownBlock:=by
  cases e:u2.ownBlock with
  |none=>exact .inl rfl
  |some k=>exact .inr (fun e'=>h.sep k e'.symm e)
 refine⟨v',w',m,⟨p,h.r2.kept i o,fun k hk hk2=>?_,Below.grown h.bel i h.bel.size (fun k hk=>(h.r1.lt k hk).1)⟩,fun k hk hne=>i.block k hk (fun e=>hne e.symm)⟩;rcases r k hk with l|l;·exact h.sep k l hk2
 have:=(h.r2.lt k hk2).2;omega
theorem Ymy (w:World)(x:Int):(Instr.buildSlice 114 1 #[(0,.int .i64 x)]).run prog w=.ok (.slice (some ⟨w.heap.size,0,none⟩) 1 1) (w.alloc (.cells #[.int .i64 x] 3)):=by kernel_rfl
theorem Xu2 {P:Program}{o:Oper}{a:Act}(w:World){t e:TypeId}{x:Operand}{v:Value}(ho:o.op=.buildSlice t 1 #[(0,x)])(hx:a.eval x=v)(h:(Instr.buildSlice t 1 #[(0,v)]).run P w=.ok (.slice (some ⟨w.heap.size,0,none⟩) 1 1) (w.alloc (.cells #[v] e))):(execOp a.eval o).run P w=.ok (.value (.slice (some ⟨w.heap.size,0,none⟩) 1 1)) (w.alloc (.cells #[v] e)):=by unfold execOp;rw[ho];simp only[List.map_toArray,List.map_cons,List.map_nil,hx];rw[Sem.run_bind,h];rfl
def Ykx (l:List Nat)(w:World)(e:Ending)(w':World):Prop:=
 ∃(v1 v2:Value) (a er:Nat),e=.returned (.tuple #[v1,v2,.int .i64 (a:Int),.int .i64 (er:Int)])∧NRow w' v1 ((rns l).map Prod.snd)∧NRow w' v2 ((rns l).map Prod.fst)∧(vld l=true→er=0)∧(vld l=false→er≠0)∧a≤l.length∧Bw w w'
theorem Yle (l:List Nat):rns l=rsN l.length 0 l:=rfl
theorem Xza (l:List Nat):(rns l).length≤l.length:=Xy7 _ _ _
theorem Xir {fn:Func}{t u v x:Tmp}(h:fn.results=#[.tmp t,.tmp u,.tmp v,.tmp x])(tmps:Array Value)(P:Program)(w:World):(results fn tmps).run P w=.ok (.tuple #[tmps.getD t undef,tmps.getD u undef,tmps.getD v undef,tmps.getD x undef]) w:=by simp[results,h]
structure AlI (s:ByteArray) (w:World) (n:Nat) (u1 u2:Value) (pre:List (Nat×Nat)) (wr:World):Prop where
 rn1:rns (bs s)=pre++rsN (s.size-n) n ((bs s).drop n)
 vd1:vld (bs s)=vld ((bs s).drop n)
 len:pre.length≤n
 ta:TA w u1 u2 pre.length pre.length ((pre.map Prod.snd).map nV) ((pre.map Prod.fst).map nV) wr
theorem AlI.post1 {s:ByteArray}{w wr:World}{n:Nat}{u1 u2:Value}{pre:List (Nat×Nat)}(h:AlI s w n u1 u2 pre wr)(he:rns (bs s)=pre):NRow wr u1 ((rns (bs s)).map Prod.snd):=by rw[he];exact Xuc (base:=w.heap.size) (by rw[List.length_map];exact h.ta.r1)
theorem AlI.post2 {s:ByteArray}{w wr:World}{n:Nat}{u1 u2:Value}{pre:List (Nat×Nat)}(h:AlI s w n u1 u2 pre wr)(he:rns (bs s)=pre):NRow wr u2 ((rns (bs s)).map Prod.fst):=by rw[he];exact Xuc (base:=w.heap.size) (by rw[List.length_map];exact h.ta.r2)
theorem Yct (s:ByteArray)(w:World)(hs:s.size≤10000000):Calls prog 67 #[.string s] w (Ykx (bs s) w):=by
 go_enter func67,ntmps67;go_wp2_with fail;go_loopg [6,7,8] s.size (fun k a b i wr=>∃(n:Nat) (c:List (Nat×Nat)),n≤s.size∧k=s.size-n∧i=.int .i64 (n:Int)∧Hid (AlI s w n a b c wr));exact⟨0,[],by omega,rfl,rfl,Hd ⟨by rw[Nat.sub_zero,Yle,Xac];rfl,rfl,zL _,⟨World.ownsRow_nil _ _ _ _,World.ownsRow_nil _ _ _ _,(fun k h=>by simp[Value.ownBlock] at h),zR _ _⟩⟩⟩;obtain⟨n,c,hn,rfl,rfl,J⟩:=hrel;by_cases b:n<s.size
 ·have y:(s.extract n s.size).size=s.size-n:=by rw[ByteArray.size_extract];omega
  have D:=Hd (Ybe (s.extract n s.size) wr (by omega) (by rw[y];unfold maxLen;omega));rw[Xoh] at D;have T:=(Xrl ((bs s).drop n)).1;rw[List.length_drop,Xac] at T;have t:(bs s).drop n≠[]:=by intro e;have:=congrArg List.length e;rw[List.length_drop,Xac] at this;simp at this;omega
  have f:=Xm9 t;have q:((bs s).drop n).length=s.size-n:=by rw[List.length_drop,Xac]
  by_cases z:rn ((bs s).drop n)=0
  ·have g:Hid (rns (bs s)=c):=Hd (by rw[J.o.rn1,Xno _ _ _ z,List.append_nil]);have A:Hid (vld (bs s)=false):=Hd (by rw[J.o.vd1,f,z];rfl);have Z:=Hd z;clear f t y q z;go_wp2_with fail;refine D.o.mono ?_;rintro e w1 ⟨r,m,S,rfl,L,C,l⟩;have q1:((S:Int) !=0)=true:=Xaq (by have:=C Z.o;omega);have H2:=Hd (C Z.o);have P:=Hd l;clear D L C l;go_wp2_with fail
   (try simp only[Exit.inBlock,Exit.then])
   refine zP (Xir rfl _ _ _) rfl ?_;exact⟨_,_,n,S,rfl,(J.o.post1 g.o).below P.o,(J.o.post2 g.o).below P.o,(fun h=>by rw[A.o] at h;cases h),(fun _=>H2.o),by rw[Xac];exact hn,J.o.ta.bel.trans (P.o.mono J.o.ta.bel.size)⟩
  obtain⟨p,U⟩:=xq ((n,cpt ((bs s).drop n)));have g:Hid (∀m,m=rn ((bs s).drop n)→rns (bs s)=(c++[p])++rsN (s.size-(n+m)) (n+m) ((bs s).drop (n+m))):=Hd (by rintro m rfl;rw[J.o.rn1,Xnp _ _ _ z (by rw[q];exact zL _),←U,List.drop_drop,List.length_drop,Xac,List.append_assoc];rfl);have A:Hid (∀m,m=rn ((bs s).drop n)→vld (bs s)=vld ((bs s).drop (n+m))):=Hd (by rintro m rfl;rw[J.o.vd1,f,List.drop_drop];simp[z]);have Z:=Hd z;have HP:=Hd U;have j:=Hd J.o.len;have SZ:=Hd hs;have HN:=Hd hn;clear f t y q z U;go_wp2_with fail;refine D.o.mono ?_;rintro e w1 ⟨r,m,S,rfl,L,C,l⟩;obtain⟨F,M,rfl⟩:=L Z.o;have Q:=Hd M;have HR:=Hd F;have T1:TA w u6 u7 c.length c.length ((c.map Prod.snd).map nV) ((c.map Prod.fst).map nV) w1:=⟨Xep J.o.ta.r1 l,Xep J.o.ta.r2 l,J.o.ta.sep,J.o.ta.bel.trans (l.mono J.o.ta.bel.size)⟩
  have K:=Hd T1;have aB:m≤s.size-n:=by rw[M];exact T
  have aA:m≠0:=by rw[M];exact Z.o
  have d:Hid (∀N O W,TA w N O (c.length+1) (c.length+1) ((c.map Prod.snd).map nV++[.int .i64 (r:Int)]) ((c.map Prod.fst).map nV++[.int .i64 (n:Int)]) W→AlI s w (n+m) N O (c++[p]) W):=Hd (fun N O W h=>⟨g.o m Q.o,A.o m Q.o,by rw[List.length_append];have:=j.o;simp;omega,by rw[List.length_append,List.map_append,List.map_append,List.map_append,List.map_append,HP.o,←HR.o];exact h⟩);have R:Hid (c.length≤100000000):=Hd (by have:=j.o;have:=SZ.o;have:=HN.o;omega);have OR:Hid (nV r=.int .i64 (r:Int)):=Hd rfl;clear D L C l M F T J T1 g A Z HP j Q HR;obtain⟨ol,E⟩:=xq c.length;rw[←E] at K d R;obtain⟨aC,H⟩:=xq ((c.map Prod.snd).map nV);obtain⟨aD,I⟩:=xq ((c.map Prod.fst).map nV);rw[←H,←I] at K d;clear E H I;go_upto_region 7 with fail;refine wp_region_list ?_;simp only[];have V:=K.o.alloc (.cells #[.int .i64 (r:Int)] 3);obtain⟨N,B,F,X,_⟩:=V.app R.o w1.heap.size (.int .i64 (r:Int)) rfl (zN w1 _);have Y:=X.alloc (.cells #[.int .i64 (n:Int)] 3);obtain⟨O,W4,G,A4,_⟩:=Y.symm.app R.o B.heap.size (.int .i64 (n:Int)) rfl (zN B _);have FJ:=Hd (d.o _ _ _ A4.symm);clear K V X Y A4 d;refine Xaz (v:=u6) (w':=w1) rfl (by go_simp) ?_;refine Xaz (v:=.int .i64 (r:Int)) (w':=w1) rfl (by go_simp) ?_;refine Xaz rfl (Xu2 w1 (x:=.tmp 31) (v:=.int .i64 (r:Int)) rfl (by kernel_rfl) (Ymy _ _)) ?_;refine Xaz rfl (Xbl (s:=.tmp 30) (x:=.tmp 32) (v:=u6) (u:=.slice (some ⟨w1.heap.size,0,none⟩) 1 1) rfl (by kernel_rfl) (by kernel_rfl) F) ?_;refine Xaz (v:=u7) (w':=B) rfl (by go_simp) ?_;refine Xaz (v:=.int .i64 (n:Int)) (w':=B) rfl (by go_simp) ?_;refine Xaz rfl (Xu2 B (x:=.tmp 35) (v:=.int .i64 (n:Int)) rfl (by kernel_rfl) (Ymy _ _)) ?_;refine Xaz rfl (Xbl (s:=.tmp 34) (x:=.tmp 36) (v:=u7) (u:=.slice (some ⟨B.heap.size,0,none⟩) 1 1) rfl (by kernel_rfl) (by kernel_rfl) G) ?_;clear F G;go_wp2_with fail;go_roundg (s.size-(n+m));exact⟨n+m,c++[p],by omega,rfl,by go_num,FJ⟩;omega
 have g:Hid (rns (bs s)=c):=Hd (by rw[J.o.rn1,List.drop_of_length_le (by rw[Xac];omega),Xno _ _ _ Yg9,List.append_nil]);have A:Hid (vld (bs s)=true):=Hd (by rw[J.o.vd1,List.drop_of_length_le (by rw[Xac];omega)];rfl);go_wp2_with fail
 (try simp only[Exit.inBlock,Exit.then])
 refine zP (Xir rfl _ _ _) rfl ?_;exact⟨_,_,0,0,rfl,J.o.post1 g.o,J.o.post2 g.o,(fun _=>rfl),(fun h=>by rw[A.o] at h;cases h),Nat.zero_le _,J.o.ta.bel⟩
theorem Ybv:∀l:List Nat,dbl l=true↔∃i,i+1<l.length∧l.getD i 0=32∧l.getD (i+1) 0=32
 |[]=>by simp[dbl]
 |[a]=>by simp[dbl]
 |a::b::t=>by
  have f:=Ybv (b::t);simp only[dbl,Bool.or_eq_true,Bool.and_eq_true,decide_eq_true_eq];rw[f];constructor
  ·rintro(⟨rfl,rfl⟩|⟨i,e,c,d⟩);·exact⟨0,by simp,rfl,rfl⟩
   exact⟨i+1,by simp at e⊢;omega,c,d⟩
  rintro⟨i,e,c,d⟩
  cases i with
  |zero=>exact .inl ⟨c,d⟩
  |succ i=>exact .inr ⟨i,by simp at e⊢;omega,c,d⟩
def spB (l:List Nat)(i:Nat):Prop:=l.getD i 0=32∧(i=0∨i=l.length-1∨l.getD (i+1) 0=32)
theorem Xyr (l:List Nat):sqz l=true↔∀i,i<l.length→¬spB l i:=by
 unfold sqz;simp only[Bool.and_eq_true,Bool.not_eq_true',decide_eq_false_iff_not];have g:=Ybv l;constructor
 ·rintro⟨⟨b,f⟩,c⟩ i hi ⟨d,e⟩;rcases e with rfl|rfl|e
  ·apply b
   cases l with
   |nil=>simp at hi
   |cons a t=>simpa using d
  ·apply f;rw[List.getLast?_eq_getElem?];simp[List.getD,hi] at d⊢;exact d
  by_cases hi1:i+1<l.length;·rw[g.2 ⟨i,hi1,d,e⟩] at c;cases c
  simp[List.getD,hi1] at e
 intro h;refine⟨⟨fun b=>?_,fun b=>?_⟩,?_⟩
 ·cases l with
  |nil=>cases b
  |cons a t=>exact h 0 (by simp) ⟨by simpa using b,.inl rfl⟩
 ·by_cases hz:l=[]
  ·subst hz;cases b
  have:0<l.length:=List.length_pos_iff.2 hz;rw[List.getLast?_eq_getElem?] at b;exact h (l.length-1) (by omega) ⟨by simp[List.getD,b],.inr (.inl rfl)⟩
 cases hb:dbl l with
 |false=>rfl
 |true=>obtain⟨i,b,f,c⟩:=g.1 hb;exact absurd ⟨f,.inr (.inr c)⟩ (h i (by omega))
theorem Ylb {l:List Nat}{i:Nat}(hi:i<l.length)(h:spB l i):sqz l=false:=by
 cases hs:sqz l with
 |false=>rfl
 |true=>exact absurd h ((Xyr l).1 hs i hi)
theorem Xt4 (s:ByteArray)(w:World)(hs:s.size≤maxLen):Rz 69 #[.string s] w (.bool (sqz (bs s))):=by
 unfold maxLen at hs;go_enter func69,ntmps69;go_wp2_with fail;go_loopg [3] s.size (fun k i wr=>∃n:Nat,n≤s.size∧k=s.size-n∧i=.int .i64 (n:Int)∧Hid (∀i,i<n→¬spB (bs s) i)∧Hid (Dr w wr));exact⟨0,by omega,rfl,rfl,Hd (fun i h=>by omega),Hd (Dr.refl _)⟩;obtain⟨n,u,rfl,rfl,hv,c⟩:=hrel;by_cases b:n<s.size
 ·obtain⟨x,g⟩:=xq ((bs s).getD n 0);have m:x<256:=by rw[g];exact Xbd s n
  have v:=fun w=>Xg4 s w n n rfl b x g;have a:Hid (¬spB (bs s) n→∀i,i<n+1→¬spB (bs s) i):=Hd (fun h i hi=>by
   rcases Nat.lt_succ_iff_lt_or_eq.1 hi with l|rfl;·exact hv.o i l
   exact h)
  have d:Hid (spB (bs s) n→sqz (bs s)=false):=Hd (Ylb (by rw[Xac];exact b));have f:=Hd g;clear g hv;by_cases e32:x=32
  ·have q:((x:Int)==32)=true:=Xa8 (by omega);by_cases n0:n=0;·have j:((n:Int)==0)=true:=Xa8 (by omega);have F:=Hd (d.o ⟨by rw[←f.o];exact e32,.inl n0⟩);clear a d e32 n0;go_wp2_with fail;go_ret;exact⟨by rw[F.o];rfl,by(first|exact c.o|exact c.o.drewN _)⟩
   by_cases nl:n=s.size-1;·have j:((n:Int)==0)=false:=Xar (by omega);have r:((n:Int)==(s.size:Int)-1)=true:=Xa8 (by omega);have F:=Hd (d.o ⟨by rw[←f.o];exact e32,.inr (.inl (by rw[Xac];exact nl))⟩);clear a d e32 n0 nl;go_wp2_with fail;go_ret;exact⟨by rw[F.o];rfl,by(first|exact c.o|exact c.o.drewN _)⟩
   obtain⟨y,e⟩:=xq ((bs s).getD (n+1) 0);have p:y<256:=by rw[e];exact Xbd s (n+1)
   have z:=fun w=>Xg4 s w ((n:Int)+1) (n+1) (by omega) (by omega) y e;have j:((n:Int)==0)=false:=Xar (by omega);have r:((n:Int)==(s.size:Int)-1)=false:=Xar (by omega);by_cases f32:y=32;·have t:((y:Int)==32)=true:=Xa8 (by omega);have F:=Hd (d.o ⟨by rw[←f.o];exact e32,.inr (.inr (by rw[←e];exact f32))⟩);clear a d e32 n0 nl f32 e;go_wp2_with fail;go_ret;exact⟨by rw[F.o];rfl,by(first|exact c.o|exact c.o.drewN _)⟩
   have t:((y:Int)==32)=false:=Xar (by omega);have F:=Hd (a.o (fun h=>h.2.elim (fun h=>n0 h) (fun h=>h.elim (fun h=>nl (by rw[Xac] at h;exact h)) (fun h=>f32 (by rw[←e] at h;exact h)))));clear a d e32 n0 nl f32 e;go_wp2_with fail;go_roundg (s.size-(n+1));exact⟨n+1,by omega,rfl,by go_num,F,by(first|exact c|exact Hd (c.o.drewN _))⟩;omega
  have q:((x:Int)==32)=false:=Xar (by omega);have F:=Hd (a.o (fun h=>e32 (by rw[f.o];exact h.1)));clear a d e32;go_wp2_with fail;go_roundg (s.size-(n+1));exact⟨n+1,by omega,rfl,by go_num,F,by(first|exact c|exact Hd (c.o.drewN _))⟩;omega
 have F:Hid (sqz (bs s)=true):=Hd ((Xyr _).2 (fun i hi=>hv.o i (by rw[Xac] at hi;omega)));clear hv;go_wp2_with fail;go_ret;exact⟨by rw[F.o];rfl,by(first|exact c.o|exact c.o.drewN _)⟩
theorem Xdk {p:Nat→Bool}{l:List Nat}{k c:Nat}(hk:k<l.length)(hc:c=l.getD k 0)(h:p c=false):l.all p=false:=by rw[List.all_eq_false];refine⟨c,?_,by simp[h]⟩;rw[hc];simp[List.getD,hk]
theorem Xb2 {p:Nat→Bool}{l:List Nat}{k c:Nat}(h0:(l.take k).all p=true)(hk:k<l.length)(hc:c=l.getD k 0)(h:p c=true):(l.take (k+1)).all p=true:=by
 rw[List.take_succ_eq_append_getElem hk,List.all_append,h0];have:l[k]=c:=by rw[hc];simp[List.getD,hk]
 simp[this,h]
theorem Xux (t:Bool)(l:List Nat):Xhz t l=(vld l&&((rns l).map Prod.snd).all (gd t)):=by unfold Xhz;rw[List.all_map];rfl
theorem NRow.at {w:World}{v:Value}{ns:List Nat}(h:NRow w v ns)(j:Nat)(hj:j<ns.length):∃b off cap,v=.slice (some ⟨b,off,none⟩) ns.length cap∧ns.length≤cap∧b<w.heap.size∧w.cell? ⟨b,off+j,none⟩=some (.int .i64 (ns.getD j 0:Int)):=by obtain⟨a,cap,c,d,f⟩:=h;obtain⟨b,off,rfl,g,i⟩:=f (fun e=>by rw[e] at hj;simp at hj);exact⟨b,off,cap,c,d,g,by rw[i j hj];simp[List.getD,hj]⟩
theorem Xj6 (s:ByteArray)(most:Nat)(w:World)(hs:s.size≤10000000)(hm:most≤10000000):zJ 25 #[.string s,.int .i64 (most:Int)] w (.int .i64 (Xfl (bs s) most:Nat)):=by
 obtain⟨T,N⟩:=xq (Xfl (bs s) most);rw[←N];have K:Hid (T=fe (eIf (decide (most<s.size)) 5) (fe (eIf (!(vld (bs s)&&((rns (bs s)).map Prod.snd).all (gd false))) 6) (eIf (!sqz (bs s)) 3))):=Hd (by rw[N];unfold Xfl;rw[Xac,Xux]);clear N;by_cases hl:most<s.size;·have T5:Hid (T=5):=Hd (by rw[K.o,zT hl];rfl);go_enter func25,ntmps25;go_wp2_with fail;go_ret;exact⟨by rw[T5.o];rfl,zR _ _⟩
 have l:Hid (T=fe (eIf (!(vld (bs s)&&((rns (bs s)).map Prod.snd).all (gd false))) 6) (eIf (!sqz (bs s)) 3)):=Hd (by rw[K.o,zW hl];rfl);have A:=Hd (Yct s w hs);have SQ:=Hd (fun w=>Xt4 s w (by unfold maxLen;omega));have Y:(rns (bs s)).length≤s.size:=by rw[←Xac];exact Xza _
 have H:((rns (bs s)).map Prod.snd).length≤s.size:=by rw[List.length_map];exact Y
 obtain⟨V,O⟩:=xq (vld (bs s));obtain⟨B,g⟩:=xq ((rns (bs s)).map Prod.snd);have W:=Hd O;rw[←O,←g] at l;obtain⟨m,t⟩:=xq B.length;rw[←g,←t] at H;have F:=Hd g;have E:=Hd t;clear K Y O g t;go_enter func25,ntmps25;go_wp2_with fail;refine A.o.mono ?_;rintro e w1 ⟨v1,v2,a,er,rfl,D,r2,L,M,_,P⟩;rw[←F.o] at D;have Z:=Hd D;have j:=Hd P
 cases V with
 |false=>have q1:((er:Int) !=0)=true:=Xaq (by have:=M W.o.symm;omega);have I:Hid (T=6):=Hd (by rw[l.o];rfl);clear A D r2 L M P l;go_wp2_with fail;go_ret;exact⟨by rw[I.o];rfl,j.o⟩
 |true=>
  obtain rfl:=L W.o.symm;clear A D r2 L M P;obtain⟨ba,cap,rfl,hc,_⟩:=Z.o;rw[←E.o] at hc⊢;go_wp2_with fail;go_loopg [9] m (fun k i wr=>∃n:Nat,n≤m∧k=m-n∧i=.int .i64 (n:Int)∧Hid ((B.take n).all (gd false)=true)∧Hid (Dr w1 wr));exact⟨0,by omega,rfl,rfl,Hd rfl,Hd (Dr.refl _)⟩;obtain⟨n,hn,rfl,rfl,z,f⟩:=hrel;by_cases b:n<m
  ·have u:n<B.length:=by rw[←E.o];exact b
   obtain⟨b0,off,aA,e0,_,v,d⟩:=Z.o.at n u;obtain⟨x,Q⟩:=xq (B.getD n 0);rw[←Q] at d;cases e0;have aB:wr.cell? ⟨b0,off+n,none⟩=some (.int .i64 (x:Int)):=((Dr.below f.o).cell (p:=⟨b0,off+n,none⟩) v).trans d;obtain⟨c,r⟩:=xq (Xu8 x);have C:=Hd (fun w=>Xt7 w x);rw[←r] at C;have S:=Hd r;have X:=Hd Q;have U:=Hd u;clear d Q r u v;cases c
   ·have G:Hid ((B.take (n+1)).all (gd false)=true):=Hd (Xb2 z.o U.o X.o (by unfold gd;rw[←S.o];rfl));clear z;go_wp2_with (go_at_call 68;refine(C.o _).mono ?_;rintro e w' ⟨rfl,rfl⟩)
    go_roundg (m-(n+1));exact⟨n+1,by omega,rfl,by go_num,G,by(first|exact f|exact Hd (f.o.drewN _))⟩;omega
   have I:Hid (T=6):=Hd (by rw[l.o,Xdk U.o X.o (by unfold gd;rw[←S.o];rfl)];rfl);clear z l;go_wp2_with (go_at_call 68;refine(C.o _).mono ?_;rintro e w' ⟨rfl,rfl⟩)
   go_ret;exact⟨by rw[I.o];rfl,j.o.trans ((Dr.below (by(first|exact f.o|exact f.o.drewN _))).mono j.o.size)⟩
  obtain rfl:n=m:=by omega
  have J:Hid (T=eIf (!sqz (bs s)) 3):=Hd (by have h:=z.o;rw[List.take_of_length_le (by rw[E.o];exact zL _)] at h;rw[l.o,h];rfl);obtain⟨q,hq⟩:=xq (sqz (bs s));rw[←hq] at SQ J;clear z l hq;go_wp2_with fail;refine(SQ.o _).mono ?_;rintro e w2 ⟨rfl,y⟩;have R:=Hd y;clear y;cases q;·go_wp2_with fail;go_ret;exact⟨by rw[J.o];rfl,j.o.trans ((Dr.below f.o).trans ((Dr.below R.o).mono (Nat.le_of_eq (Dr.size f.o).symm))|>.mono j.o.size)⟩
  go_wp2_with fail;go_ret;exact⟨by rw[J.o];rfl,j.o.trans ((Dr.below f.o).trans ((Dr.below R.o).mono (Nat.le_of_eq (Dr.size f.o).symm))|>.mono j.o.size)⟩
end Go.Proofs.YtjolcnopipbkhaaGreatDoor
