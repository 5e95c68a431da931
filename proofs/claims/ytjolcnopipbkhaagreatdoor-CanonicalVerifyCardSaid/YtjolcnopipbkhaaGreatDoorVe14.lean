/- canonical.Verify. -/
import Derived.Test.YtjolcnopipbkhaaGreatDoorVe13
namespace Go.Proofs.YtjolcnopipbkhaaGreatDoor
open Go.Proofs.Tryz
open Go.RowKit Go.Maps
set_option linter.unusedVariables false
set_option maxHeartbeats 100000000
set_option maxRecDepth 100000
theorem Xtz {leaf:Int}{n:Nat}(h:sgF leaf n=0):1≤n∧n≤8∧0≤leaf∧leaf<((2^n:Nat):Int):=by
 unfold sgF at h;split at h;·cases h
 omega
theorem Yg2 (leaf:Int)(n:Nat):sgF leaf n=0∨sgF leaf n=2:=by unfold sgF;split<;>simp
theorem Xur (c:Cont):IdOk (idV c):=by
 unfold idV;split;·exact⟨Xe4 _,Ymq⟩
 exact⟨by simp[zero32],fun x hx=>by simp[zero32] at hx;omega⟩
theorem Xtl {l:List Nat}(h:IdOk l):B16 (l.take 16):=⟨by rw[List.length_take,h.len];rfl,fun x hx=>h.lt x (List.mem_of_mem_take hx)⟩
theorem Xsv (w:World)(c:Cn)(gv rv:Value)(leaf:Int)(s:List Nat)(pv:Value)(ps:List (List Nat))(hin:CnIn w c gv rv)(hF:Xe0 c.p=0→(Xcf c.p).length≤10000000)(hs:Chs s)(hp:PRow w pv ps)(hok:∀x∈ps,B16 x)(hE:Env w):zJ 22 #[.agg (c.cells gv rv),.agg (sgC leaf s pv)] w (.int .i64 (vfF c.p (idV c.p) (Xe0 c.p) leaf s ps:Nat)):=by
 have ok:=hin.ok;have l:=Xur c.p;obtain⟨pa,pc,aD,aG⟩:=id hp;obtain⟨n,z⟩:=xq ps.length;obtain⟨cs,u⟩:=xq (c.cells gv rv);obtain⟨O,r⟩:=xq (sgC leaf s pv);obtain⟨t,g⟩:=xq (idA (idV c.p));obtain⟨E,y⟩:=xq (idA ((idV c.p).take 16));obtain⟨ks,H⟩:=xq (pkC c.height c.root);obtain⟨k,Q⟩:=xq (Xe0 c.p);obtain⟨V,P⟩:=xq (vfF c.p (idV c.p) (Xe0 c.p) leaf s ps);obtain⟨w0,A⟩:=xq ((w.alloc (.cells cs 39)).alloc (.cells O 59));have J:Bw w w0:=by rw[A];exact((zR _ _).alloc (zL _) _).alloc (by simp) _
 have C0:CB w0 w.heap.size c gv rv 39:=by unfold CB;rw[A,u];exact Xad (heap_alloc_last w _)
 have Q1:SB w0 (w.heap.size+1) leaf s pv 59:=by unfold SB;rw[A,r];have:=heap_alloc_last (w.alloc (.cells cs 39)) (.cells (sgC leaf s pv) 59);rw[World.size_alloc] at this;exact this
 have LC:Hid (∀wx,Bw w0 wx→Ld 39 ⟨w.heap.size,0,none⟩ wx (.agg cs)):=Hd (fun wx d=>by rw[u];exact(C0.on d).all ok);have X:Hid (∀wx,Bw w0 wx→Ld 37 ⟨w.heap.size,56,none⟩ wx (.agg ks)):=Hd (fun wx d=>by rw[H];exact(C0.on d).pk ok);have Y:Hid (∀wx,Bw w0 wx→wx.cell? ⟨w.heap.size,73,none⟩=some (.int .i64 c.leaf)):=Hd (fun wx d=>(C0.on d).at (Xoe ok gv rv));have L:Hid (∀wx,Bw w0 wx→Ld 59 ⟨w.heap.size+1,0,none⟩ wx (.agg O)):=Hd (fun wx d=>by rw[r];exact(Q1.on d).all 59 underlying59 Xj1 hs.len);have U:Hid (∀wx,Bw w0 wx→wx.cell? ⟨w.heap.size+1,0,none⟩=some (.int .i64 leaf)):=Hd (fun wx d=>(Q1.on d).lf);have C:Hid (∀wx,Bw w0 wx→Bw w wx):=Hd (fun wx d=>bg J d);have ID:Hid (zJ 10 #[.agg cs] w0 (.tuple #[.agg t,.int .i64 (k:Int)])):=Hd (by rw[u,g,Q];exact Yax w0 c gv rv (hin.on J) hF (hE.on J));have NW:Hid (∀w1:World,∃I,Sv 26 ⟨w1.heap.size,0,none⟩ (.agg t) (w1.alloc (.cells Xm7 26)) I∧IB I w1.heap.size 26 (idV c.p)∧Bw w1 I):=Hd (fun w1=>by rw[g];exact⟨_,Xib w1 26 (idV c.p) Xm7 (by rw[l.len];rfl) (by rw[l.len];exact Xbh),heap_alloc_last w1 _,(zR _ _).alloc (zL _) _⟩);have CK:Hid (∀wx:World,zJ 64 #[.agg O] wx (.int .i64 (sgF leaf n:Nat))):=Hd (fun wx=>by rw[r,aD,←z];exact Xt0 wx leaf s hs.len pa n pc);have W:Hid (∀wx b,IB wx b 26 (idV c.p)→Ld 26 ⟨b,0,none⟩ wx (.agg t)):=Hd (fun wx b h=>by rw[g];exact h.load underlying26 (by rw[l.len];exact Xbh));have T:Hid (∀wx:World,zJ 15 #[.agg t] wx (.agg E)):=Hd (fun wx=>by rw[g,y];exact Ygc wx l);have D:Hid (k=0→sgF leaf n=0→leaf=c.leaf→∀wx,Bw w0 wx→zJ 65 #[.agg ks,.agg E,.agg O] wx (.int .i64 (V:Nat))):=Hd (fun h0 h1 h2 wx d=>by
  obtain⟨z1,z2,z3,z4⟩:=Xtz h1;rw[Q] at h0;rw[z] at h1 z1 z2 z4;have vd:=Xvm h0;obtain⟨lf,aF⟩:∃m:Nat,leaf=(m:Int):=⟨leaf.toNat,by omega⟩
  have e:V=Yh4 c.height c.root ((idV c.p).take 16) leaf s ps:=by rw[P];unfold vfF;rw[qN (by simp[h0]),qN (by simp[h1]),qN (by simp[h2,Cn.p])];rfl
  have hh:=vd.height;rw[e,H,y,r];subst aF;exact Xrc wx c.height c.root _ lf s pv ps ok.root (Xtl l) hs (hp.below (bg J d)) hok hh.1 hh.2 h1 z1 z2 (by omega) (hE.on (bg J d)))
 have V1:Hid (k≠0→V=k):=Hd (fun h=>by rw[P];unfold vfF;rw[←Q,qP h]);have M:Hid (k=0→sgF leaf n=2→V=2):=Hd (fun h h1=>by rw[P];unfold vfF;rw[←Q,qN (by simp[h]),←z,qP (by simp[h1])]);have N:Hid (k=0→sgF leaf n=0→leaf≠c.leaf→V=17):=Hd (fun h h1 h2=>by rw[P];unfold vfF;rw[←Q,qN (by simp[h]),←z,qN (by simp[h1])];exact qP h2);obtain⟨q,hq⟩:=xq (sgF leaf n);have aE:q=0∨q=2:=by rw[hq];exact Yg2 leaf n
 rw[←P,←u,←r];rw[←hq] at CK D M N;unfold Xm7 at NW;have HW:=Hd A;clear A u r g y H Q P z aD aG hp J C0 Q1 ok l hin hF hs hok hE hq;go_enter func22,ntmps22;go_upto_region 1 with fail;rw[←HW.o];clear HW;have A0:=Hd (LC.o w0 (zR _ _));refine wp_region_list ?_;simp only[];refine Xab 39 rfl _ rfl ⟨_,_,rfl,A0.o,?_⟩;go_wp2_with fail;refine ID.o.mono ?_;rintro e w1 ⟨rfl,aA⟩;obtain⟨I,st,i2,aB⟩:=NW.o w1;have D2:=Hd (bg aA aB);have ST:=Hd st;have I2:=Hd i2;obtain⟨Z,aC⟩:=xq w1.heap.size;clear aA aB st i2 ID NW A0 LC;go_upto_region 2 with((with_reducible refine Xaa 26 rfl _ _ rfl ?_);refine⟨_,_,_,rfl,rfl,ST.o,?_⟩)
 rw[←aC] at I2⊢;clear ST aC;by_cases hk0:k=0
 ·have q1:((k:Int) !=0)=false:=Xaw (by omega);have G2:=Hd (L.o I D2.o);clear V1;go_upto_region 4 with fail;refine wp_region_list ?_;simp only[];refine Xab 59 rfl _ rfl ⟨_,_,rfl,G2.o,?_⟩;go_wp2_with fail;refine(CK.o I).mono ?_;rintro e R ⟨rfl,G⟩;have K:=bh D2 G;have I3:=Hd (I2.o.below G);clear G CK D2 I2 G2 q1;rcases aE with rfl|rfl
  ·have c1:=U.o R K.o;have c2:=Y.o R K.o;by_cases hl:leaf=c.leaf
   ·have q2:(leaf !=c.leaf)=false:=Xaw hl;replace D:=Hd (D.o hk0 rfl hl);clear M N hk0;go_upto_region 9 with fail;refine wp_region_held (S:=fun wx=>Bw w0 wx∧IB wx Z 26 (idV c.p)) (by kernel_rfl) ?_;change wpAnyH _ _ _ _ _ _ _ _ R.drew;obtain⟨y0,B⟩:=xq R.drew;rw[←B];have E0:Hid (Bw w0 y0):=Hd (by rw[B];exact K.o.drew);have J0:Hid (IB y0 Z 26 (idV c.p)):=Hd (by rw[B];exact I3.o);clear B K I3 c1 c2 hl q2;have hB:(fun wx:World=>Bw w0 wx∧IB wx Z 26 (idV c.p)) y0:=⟨E0.o,J0.o⟩
    refine Xae 0 (.pointer (some ⟨w.heap.size,56,none⟩)) rfl (fun w' hw'=>by go_simp) hB ?_;refine Xae 1 (.agg ks) rfl (fun w' hw'=>Xaj (ty:=37) (x:=.tmp 26) (ad:=⟨w.heap.size,56,none⟩) rfl (by kernel_rfl) (X.o w' hw'.1)) hB ?_;refine Xae 2 (.agg t) rfl (fun w' hw'=>Xaj (ty:=26) (x:=.tmp 5) (ad:=⟨Z,0,none⟩) rfl (by kernel_rfl) (W.o w' Z hw'.2)) hB ?_;refine Xae 4 (.agg O) rfl (fun w' hw'=>Xaj (ty:=59) (x:=.tmp 3) (ad:=⟨w.heap.size+1,0,none⟩) rfl (by kernel_rfl) (L.o w' hw'.1)) hB ?_;clear hB;refine Xas (i:=3) (f:=15) (args:=#[.agg t]) (by kernel_rfl) rfl (by kernel_rfl) (by kernel_rfl) ?_;refine(T.o y0).mono ?_;rintro e y1 ⟨rfl,d⟩;have E1:=bh E0 d;have J1:=Hd (J0.o.below d);clear d;refine⟨_,rfl,⟨E1.o,J1.o⟩,?_⟩;refine Xas (i:=5) (f:=65) (args:=#[.agg ks,.agg E,.agg O]) (by kernel_rfl) rfl (by kernel_rfl) (by kernel_rfl) ?_;refine(D.o y1 E1.o).mono ?_;rintro e y2 ⟨rfl,d⟩;have E2:=bh E1 d;have J2:=Hd (J1.o.below d);clear d;refine⟨_,rfl,⟨E2.o,J2.o⟩,?_⟩;refine Xag (i:=6) (by kernel_rfl) ?_;refine Xan (v:=.int .i64 (V:Int)) rfl rfl (Xal (x:=.tmp 31) rfl (by kernel_rfl)) ?_;refine⟨⟨E2.o,J2.o⟩,?_⟩;refine wpAnyH_done (by kernel_rfl) ?_ _;have j:=Hd (C.o y2 E2.o);clear C Y L U X W T D E0 E1 J0 J1 E2 J2;go_simp;refine‹∀(a:Act) (w_1:World),_→_› _ _ ?_;go_wp2_with fail;go_ret;exact⟨rfl,j.o⟩
   have q2:(leaf !=c.leaf)=true:=Xaq hl;have F:=Hd (N.o hk0 rfl hl);have j:=Hd (C.o R K.o);clear M N D hk0 hl C Y L U X W T;go_wp2_with fail;go_ret;exact⟨by rw[F.o];rfl,j.o⟩
  have F:=Hd (M.o hk0 rfl);have j:=Hd (C.o R K.o);clear M N D hk0 C Y L U X W T;go_wp2_with fail;go_ret;exact⟨by rw[F.o];rfl,j.o⟩
 have q1:((k:Int) !=0)=true:=Xaq (by omega);have F:=Hd (V1.o hk0);have j:=Hd (C.o I D2.o);clear V1 M N D hk0 C Y L U X W T CK;go_wp2_with fail;go_ret;exact⟨by rw[F.o];rfl,j.o⟩
theorem Yhy (w:World):(zeroValue 59).run prog w=.ok (.agg (sgC 0 zch (.slice none 0 0))) w:=by kernel_rfl
theorem Xx7:Tryz.zeroCells59=sgC 0 zch (.slice none 0 0):=by kernel_rfl
theorem Yge (w:World)(leaf:Int){s:List Nat}(h:s.length=560)(a:Option Addr)(n c:Nat):(Instr.build 59 #[(0,.int .i64 leaf),(1,.agg (idA s)),(2,.slice a n c)]).run prog w=.ok (.agg (sgC leaf s (.slice a n c))) w:=by
 have d:zch.length=560:=by simp[zch]
 refine Xi3 w _ _ _ _ #[(0,1),(1,560),(561,1)] _ (Yhy w) underlying59 (by kernel_rfl) ?_;show Instr.fill _ (([.int .i64 0]:List Value)++(zch.map U++([.slice none 0 0]:List Value))).toArray [((0:Nat),(.int .i64 leaf:Value)),(1,.agg (idA s)),(2,.slice a n c)]=_;refine Xsf (off:=0) (size:=1) rfl rfl (by simp) (Xjy ([]:List Value) ([.int .i64 0]:List Value) (zch.map U++([.slice none 0 0]:List Value)) #[Value.int .i64 leaf] 0 rfl rfl) ?_;refine Xsf (cs':=(([.int .i64 leaf]:List Value)++(idA s).toList++([.slice none 0 0]:List Value)).toArray) (off:=1) (size:=560) rfl (by show(idA s).size=560;rw[Xaf,h]) (by simp[d]) (by have:=Xjy ([.int .i64 leaf]:List Value) (zch.map U) ([.slice none 0 0]:List Value) (idA s) 1 rfl (by rw[List.length_map,d,Xaf,h]);rw[List.append_assoc] at this;exact this) ?_;have b:=Xjy (([.int .i64 leaf]:List Value)++(idA s).toList) ([.slice none 0 0]:List Value) ([]:List Value) #[.slice a n c] 561 (by simp[idA,h]) rfl;rw[List.append_nil,List.append_nil] at b;refine Xsf (cs':=(([.int .i64 leaf]:List Value)++(idA s).toList++([.slice a n c]:List Value)).toArray) (off:=561) (size:=1) rfl rfl (by simp[idA,h]) b ?_;simp[Instr.fill,sgC,idA]
theorem Yji:(prog.info? 22).map (fun i=>(i.zero,i.size,i.bytes))=some (some (.agg (idA (List.replicate 16 0))),16,16):=by kernel_rfl
theorem Yoi (w:World):(Instr.buildSlice 53 0 #[]).run prog w=.ok (.slice (some ⟨w.heap.size,0,none⟩) 0 0) (w.alloc (.cells #[] 22)):=by kernel_rfl
theorem Yoj (w:World)(base g:Nat)(sv:Value)(l:List (List Nat))(ty:TypeId)(ho:w.ownsRow base 22 16 (.slice (some ⟨g,0,none⟩) 0 0) 0 [])(hr:PRow w sv l)(hok:∀x∈l,B16 x)(hl:l.length≤1000)(q:base≤w.heap.size):∃v' w',(Builtin.append_ #[53,53] ty #[.slice (some ⟨g,0,none⟩) 0 0,sv]).run prog w=.ok v' w'∧w'.ownsRow base 22 16 v' l.length (Xa2 l)∧w.grownBy w' (some g):=by
 obtain⟨s,f,i,m,o⟩:=info_parts Yji;obtain⟨a,c,rfl,A,r⟩:=hr
 cases a with
 |none=>
  have t:l=[]:=by
   cases l with
   |nil=>rfl
   |cons x y=>obtain⟨b,off,e,_⟩:=r (by simp);cases e
  subst t;exact⟨_,_,Xom w 53 ty 22 s underlying53 f g c,ho,⟨rfl,rfl,rfl,zL _,fun k _ _=>rfl⟩⟩
 |some ad=>
  obtain⟨v',w',v,p,z,_⟩:=run_append_own (P:=prog) w base 53 ty 22 s (.agg (idA (List.replicate 16 0))) 16 16 underlying53 f i m o rfl (by decide) _ 0 [] ho ad l.length c (Xa2 l) (Xh7 l hok) (fun j u hu=>by
   have h:l≠[]:=fun e=>by subst e;cases hu
   obtain⟨b,off,e,q,d⟩:=r h;cases e;exact PRow.cells (n:=0) (c:=0) hok d j u hu) (Xku l) (by unfold maxLen;omega) (by omega) q
  rw[Nat.zero_add,List.nil_append] at p;exact⟨v',w',v,p,z⟩
theorem Yii (leaf:Int)(s:List Nat)(a:Option Addr)(n c:Nat):(sgC leaf s (.slice a n c)).all (·.oneCell')=true:=by
 unfold sgC;refine Ycs _ (fun v hv=>?_);rcases List.mem_append.1 hv with h|h;·rcases List.mem_singleton.1 h with rfl;rfl
 rcases List.mem_append.1 h with h|h;·obtain⟨y,_,rfl⟩:=List.mem_map.1 h;rfl
 rcases List.mem_singleton.1 h with rfl;rfl
theorem Ydq (w:World)(leaf:Int)(s:List Nat)(pv:Value)(ps:List (List Nat))(hs:Chs s)(hp:PRow w pv ps)(hok:∀x∈ps,B16 x)(hn:ps.length≤1000):Calls prog 23 #[.agg (sgC leaf s pv)] w fun e w'=>∃O v,e=.returned (.agg O)∧O=sgC leaf s v∧PRow w' v ps∧Bw w w':=by
 have hz:zch.length=560:=by simp[zch]
 obtain⟨O,B⟩:=xq (sgC leaf s pv);obtain⟨ss,D⟩:=xq (idA s);obtain⟨w0,d⟩:=xq ((w.alloc (.cells O 55)).alloc (.cells Tryz.zeroCells59 59));have s0:w0.heap.size=w.heap.size+2:=by rw[d];simp
 have B0:Bw w w0:=by rw[d];exact((zR _ _).alloc (zL _) _).alloc (by simp) _
 have Q0:SB w0 w.heap.size leaf s pv 55:=by unfold SB;rw[d,B];exact Xad (heap_alloc_last w _)
 have Q1:SB w0 (w.heap.size+1) 0 zch (.slice none 0 0) 59:=by unfold SB;rw[d,←Xx7];have:=heap_alloc_last (w.alloc (.cells O 55)) (.cells Tryz.zeroCells59 59);rw[World.size_alloc] at this;exact this
 have LF:Hid (∀wx,SB wx w.heap.size leaf s pv 55→wx.cell? ⟨w.heap.size,0,none⟩=some (.int .i64 leaf)):=Hd (fun wx h=>h.lf);have LP:Hid (∀wx,SB wx w.heap.size leaf s pv 55→wx.cell? ⟨w.heap.size,561,none⟩=some pv):=Hd (fun wx h=>h.path hs.len);have LC:Hid (∀wx,SB wx w.heap.size leaf s pv 55→Ld 52 ⟨w.heap.size,1,none⟩ wx (.agg ss)):=Hd (fun wx h=>by rw[D];exact h.chains 52 underlying52 Xh2 hs.len);have BS:Hid (∀w a n c,(Instr.build 59 #[(0,.int .i64 leaf),(1,.agg ss),(2,.slice a n c)]).run prog w=.ok (.agg (sgC leaf s (.slice a n c))) w):=Hd (fun w a n c=>by rw[D];exact Yge w leaf hs.len a n c);have HS:=Hd hs;have HP:=Hd hp;have A:=Hd hok;have r:=Hd B0;have b:=Hd Q0;have L:=Hd Q1;have M:=Hd s0;have HN:=Hd hn;obtain⟨pa,pc,V,aA⟩:=id hp;obtain⟨n,T⟩:=xq ps.length;have K:Hid (pv=.slice pa n pc):=Hd (by rw[T];exact V);rw[←B];have HW:=Hd d;clear d B D s0 B0 Q0 Q1 hs hp hok hn V aA T;go_enter func23,ntmps23;go_upto_region 1 with fail;rw[←HW.o];clear HW;refine wp_region_held (S:=fun wx=>SB wx w.heap.size leaf s pv 55) (by kernel_rfl) ?_;change wpAnyH _ _ _ _ _ _ _ _ w0.drew;obtain⟨q,E⟩:=xq w0.drew;rw[←E];have I:Hid (Bw w0 q):=Hd (by rw[E];exact(zR _ _).drew);clear E;have m:(fun wx:World=>SB wx w.heap.size leaf s pv 55) q:=b.o.on I.o;refine Xae 0 (.pointer (some ⟨w.heap.size,0,none⟩)) rfl (fun w' hw'=>by go_simp) m ?_;refine Xae 1 (.int .i64 leaf) rfl (fun w' hw'=>by have cl:=LF.o w' hw';go_simp) m ?_;refine Xae 2 (.pointer (some ⟨w.heap.size,1,none⟩)) rfl (fun w' hw'=>by go_simp) m ?_;refine Xae 3 (.agg ss) rfl (fun w' hw'=>Xaj (ty:=52) (x:=.tmp 5) (ad:=⟨w.heap.size,1,none⟩) rfl (by kernel_rfl) (LC.o w' hw')) m ?_;refine Xae 5 (.pointer (some ⟨w.heap.size,561,none⟩)) rfl (fun w' hw'=>by go_simp) m ?_;refine Xae 6 pv rfl (fun w' hw'=>by have cl:=LP.o w' hw';rw[K.o] at cl⊢;go_simp) m ?_;clear m;refine Xag (i:=4) (by kernel_rfl) ?_;refine Xan rfl rfl (Xgb q rfl (Yoi q)) ?_;obtain⟨y1,p⟩:=xq (q.alloc (.cells #[] 22));have G:Hid (Bw w0 y1):=Hd (by rw[p];exact I.o.alloc I.o.size _);have W:Hid (y1.ownsRow w0.heap.size 22 16 (.slice (some ⟨q.heap.size,0,none⟩) 0 0) 0 []):=Hd (by rw[p];exact Xes q w0.heap.size 22 16 I.o.size);rw[←p];obtain⟨g,hg⟩:=xq q.heap.size;rw[←hg] at W⊢;clear p hg;refine⟨b.o.on G.o,?_⟩;obtain⟨v',F,Q,U,R⟩:=Yoj y1 w0.heap.size g pv ps 53 W.o (HP.o.below (bg r.o G.o)) A.o HN.o G.o.size;refine Xag (i:=7) (by kernel_rfl) ?_;refine Xan rfl rfl (Xbl (s:=.tmp 7) (x:=.tmp 9) (t:=53) (v:=.slice (some ⟨g,0,none⟩) 0 0) (u:=pv) rfl (by kernel_rfl) (by kernel_rfl) Q) ?_;have H:Hid (Bw w0 F):=Hd (Below.grown G.o R G.o.size (fun k hk=>by cases hk;exact(W.o.lt g rfl).1));have Y:=Hd U;clear Q U R;refine⟨b.o.on H.o,?_⟩;obtain⟨f,l,j,rfl⟩:=Xdx Y.o;have m:(fun wx:World=>SB wx w.heap.size leaf s pv 55) F:=b.o.on H.o;refine Xae 8 (.agg (sgC leaf s (.slice f l j))) rfl (fun w' hw'=>Xch rfl (by kernel_rfl) (BS.o w' f l j)) m ?_;clear m;have z:(sgC leaf s (.slice f l j)).size=562:=Xnh HS.o.len _ _;have Z:=L.o.on H.o;have N:=Hd (run_storeVar_row (P:=prog) F (w.heap.size+1) _ 59 _ (sgC leaf s (.slice f l j)) Z (by rw[z];exact Xj1) (by rw[z,Xnh hz]) (Yii _ _ _ _ _));have W5:=Hd (setRow_heap F (w.heap.size+1) _ (sgC leaf s (.slice f l j)) _ _ Z);have s0:=M.o;have J:Hid (PRow (F.setRow (w.heap.size+1) (sgC leaf s (.slice f l j))) (.slice f l j) ps∧Bw w (F.setRow (w.heap.size+1) (sgC leaf s (.slice f l j)))):=Hd
  ⟨Xub A.o (Xe7 Y.o (Xfu _ (w.heap.size+1) _) (by omega)),below_setRow (bg r.o H.o) (Nat.le_succ _) _⟩
 have SZ:Hid ((prog.info? 59).map (·.size)=some (sgC leaf s (.slice f l j)).size):=Hd (by rw[z];exact Xj1);have SN:=Hd ((setRow_other F (w.heap.size+1) w.heap.size (sgC leaf s (.slice f l j)) (by omega)).trans (b.o.on H.o));refine Xag (i:=9) (by kernel_rfl) ?_;refine Xa1 rfl rfl (Xak (t:=59) (x:=.tmp 2) (y:=.tmp 11) (ad:=⟨w.heap.size+1,0,none⟩) (u:=.agg (sgC leaf s (.slice f l j))) rfl (by kernel_rfl) (by kernel_rfl) N.o) ?_;refine⟨SN.o,?_⟩;refine wpAnyH_done (by kernel_rfl) ?_ _;obtain⟨rs,C⟩:=xq (sgC leaf s (.slice f l j));rw[←C] at W5 J SZ⊢;have X:=Hd C;clear C Z z s0 N SN LF LP LC BS HS HP A r b L M K I G H W Y;go_simp;refine‹∀(a:Act) (w_1:World),_→_› _ _ ?_;go_wp2_with fail;exact zP (results_cell_row results23 _ _ (w.heap.size+1) _ _ _ _ rfl W5.o underlying59 rfl SZ.o) rfl ⟨_,_,rfl,X.o,J.o⟩
theorem Xf9 (x:Nat)(h:x<16):(⟨#[48,49,50,51,52,53,54,55,56,57,97,98,99,100,101,102]⟩:ByteArray).extract x (x+1)=Xax [hxl x]:=by
 have:∀x:Fin 16,(⟨#[48,49,50,51,52,53,54,55,56,57,97,98,99,100,101,102]⟩:ByteArray).extract x.val (x.val+1)=Xax [hxl x.val]:=by decide+kernel
 exact this ⟨x,h⟩
theorem Xcm (l m:List Nat):Xax (l++m)=Xax l++Xax m:=by unfold Xax;apply ByteArray.ext;simp[ByteArray.data_append]
theorem Xrp (w:World){l:List Nat}(hl:B16 l):zJ 55 #[.agg (idA l)] w (.string (Xax (Xb5 l))):=by
 obtain⟨w0,b⟩:=xq (w.alloc (.cells (idA l) 22));have t:Hid (Bw w w0):=Hd (by rw[b];exact(zR _ _).alloc (zL _) _);have B:Hid (IB w0 w.heap.size 22 l):=Hd (by unfold IB;rw[b];exact heap_alloc_last w _);have m:=Hd hl;obtain⟨cs,h⟩:=xq (idA l);rw[←h] at b⊢;have u:=Hd b;have L:Hid (Xb5 (l.take 0)=[]):=Hd rfl;clear b h hl;go_enter func55,ntmps55;go_upto_region 1 with fail;rw[←u.o];clear u;go_wp2_with fail;go_loopg [4,5] 16 (fun k s i wr=>∃j:Nat,j≤16∧k=16-j∧i=.int .i64 (j:Int)∧s=.string (Xax (Xb5 (l.take j)))∧Hid (Dr w0 wr));exact⟨0,by omega,rfl,rfl,rfl,Hd (Dr.refl _)⟩;obtain⟨j,P,rfl,rfl,rfl,g⟩:=hrel;by_cases hlt:j<16
 ·have a:j<l.length:=by rw[m.o.len];exact hlt
  obtain⟨c,n⟩:=xq (l.getD j 0);have F:c<256:=by rw[n,List.getD_eq_getElem?_getD,List.getElem?_eq_getElem a,Option.getD_some];exact m.o.lt _ (zG a)
  have e:=Xct a n;have M:wr.cell? ⟨w.heap.size,j,none⟩=some (.int .u8 (c:Int)):=by rw[n];exact(B.o.below (Dr.below g.o)).cell a
  obtain⟨x,v⟩:=xq (c/16);obtain⟨y,z⟩:=xq (c%16);rw[←v,←z] at e;have q:x<16:=by omega
  have r:y<16:=by omega
  obtain⟨s,d⟩:=xq (Xax (Xb5 (l.take j)));have C:Hid (s++Xax [hxl x]++Xax [hxl y]=Xax (Xb5 (l.take (j+1)))):=Hd (by rw[d,e,←Xcm,←Xcm];simp);have p:Hid (s++(Xax [hxl x]++Xax [hxl y])=Xax (Xb5 (l.take (j+1)))):=Hd (by rw[d,e,←Xcm,←Xcm];simp);have I:s.size≤65:=by rw[d,Xat];simp[Xb9];omega
  have N:(c:Int)/16=(x:Int):=by omega
  have O:(c:Int)%16=(y:Int):=by omega
  have E:(c:Int).tmod 16=(y:Int):=by rw[Int.tmod_eq_emod_of_nonneg (by omega)];omega
  have D:(c:Int).tdiv 16=(x:Int):=by rw[Int.tdiv_eq_ediv_of_nonneg (by omega)];omega
  have Q:=Xf9 x q;have R:=Xf9 y r;have G:(x:Int)<16:=by omega
  have H:(y:Int)<16:=by omega
  have S:(Xax [hxl x]).size=1:=rfl;have T:(Xax [hxl y]).size=1:=rfl;have J:(s++Xax [hxl x]).size≤66:=by rw[ByteArray.size_append];omega
  have K:(Xax [hxl x]++Xax [hxl y]).size≤2:=by rw[ByteArray.size_append];omega
  rw[←d];clear d e v z n a;go_upto_region 6 with fail;go_quiet (fail);first|rw[C.o]|rw[p.o]
  go_wp2_with fail;go_roundg (16-(j+1));exact⟨j+1,by omega,rfl,by go_num,rfl,Hd (Xxa g.o ⟨nq,rfl⟩)⟩;omega
 have f:l.take j=l:=List.take_of_length_le (by rw[m.o.len];omega);rw[f];obtain⟨s,d⟩:=xq (Xax (Xb5 l));have A:=Hd d;have I:s.size≤65:=by rw[d,Xat];simp[Xb9,m.o.len]
 rw[←d];clear d f;go_wp2_with fail;go_ret;exact⟨by rw[A.o];rfl,t.o.trans ((Dr.below g.o).mono t.o.size)⟩
theorem Xy4 (w:World){l:List Nat}(hl:IdOk l):zJ 104 #[.agg (idA l)] w (.string (Xax (Xfi l))):=by
 obtain⟨w0,b⟩:=xq (w.alloc (.cells (idA l) 118));have t:Hid (Bw w w0):=Hd (by rw[b];exact(zR _ _).alloc (zL _) _);have B:Hid (IB w0 w.heap.size 118 l):=Hd (by unfold IB;rw[b];exact heap_alloc_last w _);have m:=Hd hl;obtain⟨cs,h⟩:=xq (idA l);rw[←h] at b⊢;have u:=Hd b;have L:Hid (Xb5 (l.take 0)=[]):=Hd rfl;clear b h hl;go_enter func104,ntmps104;go_upto_region 1 with fail;rw[←u.o];clear u;go_wp2_with fail;go_loopg [4,5] 32 (fun k s i wr=>∃j:Nat,j≤32∧k=32-j∧i=.int .i64 (j:Int)∧s=.string (Xax (60::Xb5 (l.take j)))∧Hid (Dr w0 wr));exact⟨0,by omega,rfl,rfl,rfl,Hd (Dr.refl _)⟩;obtain⟨j,P,rfl,rfl,rfl,g⟩:=hrel;by_cases hlt:j<32
 ·have a:j<l.length:=by rw[m.o.len];exact hlt
  obtain⟨c,n⟩:=xq (l.getD j 0);have F:c<256:=by rw[n,List.getD_eq_getElem?_getD,List.getElem?_eq_getElem a,Option.getD_some];exact m.o.lt _ (zG a)
  have e:=Xct a n;have M:wr.cell? ⟨w.heap.size,j,none⟩=some (.int .u8 (c:Int)):=by rw[n];exact(B.o.below (Dr.below g.o)).cell a
  obtain⟨x,v⟩:=xq (c/16);obtain⟨y,z⟩:=xq (c%16);rw[←v,←z] at e;have q:x<16:=by omega
  have r:y<16:=by omega
  obtain⟨s,d⟩:=xq (Xax (60::Xb5 (l.take j)));have C:Hid (s++Xax [hxl x]++Xax [hxl y]=Xax (60::Xb5 (l.take (j+1)))):=Hd (by rw[d,e,←Xcm,←Xcm];simp);have p:Hid (s++(Xax [hxl x]++Xax [hxl y])=Xax (60::Xb5 (l.take (j+1)))):=Hd (by rw[d,e,←Xcm,←Xcm];simp);have I:s.size≤65:=by rw[d,Xat];simp[Xb9];omega
  have N:(c:Int)/16=(x:Int):=by omega
  have O:(c:Int)%16=(y:Int):=by omega
  have E:(c:Int).tmod 16=(y:Int):=by rw[Int.tmod_eq_emod_of_nonneg (by omega)];omega
  have D:(c:Int).tdiv 16=(x:Int):=by rw[Int.tdiv_eq_ediv_of_nonneg (by omega)];omega
  have Q:=Xf9 x q;have R:=Xf9 y r;have G:(x:Int)<16:=by omega
  have H:(y:Int)<16:=by omega
  have S:(Xax [hxl x]).size=1:=rfl;have T:(Xax [hxl y]).size=1:=rfl;have J:(s++Xax [hxl x]).size≤66:=by rw[ByteArray.size_append];omega
  have K:(Xax [hxl x]++Xax [hxl y]).size≤2:=by rw[ByteArray.size_append];omega
  rw[←d];clear d e v z n a;go_upto_region 6 with fail;go_quiet (fail);first|rw[C.o]|rw[p.o]
  go_wp2_with fail;go_roundg (32-(j+1));exact⟨j+1,by omega,rfl,by go_num,rfl,Hd (Xxa g.o ⟨nq,rfl⟩)⟩;omega
 have f:l.take j=l:=List.take_of_length_le (by rw[m.o.len];omega);rw[f];obtain⟨s,d⟩:=xq (Xax (60::Xb5 l));have A:=Hd d;have I:s.size≤65:=by rw[d,Xat];simp[Xb9,m.o.len]
 rw[←d];clear d f;go_wp2_with fail;go_ret;exact⟨by show _=Ending.returned (Value.string (Xax (60::Xb5 l++sHash)));rw[A.o,Xcm];rfl,t.o.trans ((Dr.below g.o).mono t.o.size)⟩
theorem Yeb (w:World){l:List Nat}(hl:IdOk l):zJ 157 #[.agg (idA l)] w (.string (Xax (Xb5 l))):=by
 obtain⟨w0,d⟩:=xq (w.alloc (.cells (idA l) 160));have u:Hid (Bw w w0):=Hd (by rw[d];exact(zR _ _).alloc (zL _) _);have D:Hid (IB w0 w.heap.size 160 l):=Hd (by unfold IB;rw[d];exact heap_alloc_last w _);have n:=Hd hl;obtain⟨cs,m⟩:=xq (idA l);rw[←m] at d⊢;have v:=Hd d;have P:Hid (Xb5 (l.take 0)=[]):=Hd rfl;clear d m hl;go_enter func157,ntmps157;go_upto_region 1 with fail;rw[←v.o];clear v;go_wp2_with fail;go_loopg [3,4,5,6] 32 (fun k s i v5 v6 wr=>∃j:Nat,j≤32∧k=32-j∧i=.int .i64 (j:Int)∧s=.string (Xax (Xb5 (l.take j)))∧Hid (Dr w0 wr));exact⟨0,by omega,rfl,rfl,rfl,Hd (Dr.refl _)⟩;obtain⟨j,S,rfl,rfl,rfl,a⟩:=hrel;by_cases hlt:j<32
 ·have b:j<l.length:=by rw[n.o.len];exact hlt
  obtain⟨c,p⟩:=xq (l.getD j 0);have I:c<256:=by rw[p,List.getD_eq_getElem?_getD,List.getElem?_eq_getElem b,Option.getD_some];exact n.o.lt _ (zG b)
  have f:=Xct b p;have F:wr.cell? ⟨w.heap.size,j,none⟩=some (.int .u8 (c:Int)):=by rw[p];exact(D.o.below (Dr.below a.o)).cell b
  obtain⟨x,z⟩:=xq (c/16);obtain⟨y,A⟩:=xq (c%16);rw[←z,←A] at f;have r:x<16:=by omega
  have t:y<16:=by omega
  obtain⟨s,e⟩:=xq (Xax (Xb5 (l.take j)));have E:Hid (s++Xax [hxl x]++Xax [hxl y]=Xax (Xb5 (l.take (j+1)))):=Hd (by rw[e,f,←Xcm,←Xcm];simp);have q:Hid (s++(Xax [hxl x]++Xax [hxl y])=Xax (Xb5 (l.take (j+1)))):=Hd (by rw[e,f,←Xcm,←Xcm];simp);have M:s.size≤65:=by rw[e,Xat];simp[Xb9];omega
  have Q:(c:Int)/16=(x:Int):=by omega
  have R:(c:Int)%16=(y:Int):=by omega
  have H:(c:Int).tmod 16=(y:Int):=by rw[Int.tmod_eq_emod_of_nonneg (by omega)];omega
  have G:(c:Int).tdiv 16=(x:Int):=by rw[Int.tdiv_eq_ediv_of_nonneg (by omega)];omega
  have T:=Xf9 x r;have U:=Xf9 y t;have J:(x:Int)<16:=by omega
  have K:(y:Int)<16:=by omega
  have V:(Xax [hxl x]).size=1:=rfl;have W:(Xax [hxl y]).size=1:=rfl;have N:(s++Xax [hxl x]).size≤66:=by rw[ByteArray.size_append];omega
  have O:(Xax [hxl x]++Xax [hxl y]).size≤2:=by rw[ByteArray.size_append];omega
  rw[←e];clear e f z A p b;go_upto_region 5 with fail;go_quiet (fail);obtain⟨L,h⟩:=xq (wr.drewN nq);have B:Hid (Dr w0 L):=Hd (Xxa a.o ⟨nq,h⟩);rw[←h];clear h a F;have a:=B;go_upto_region 6 with fail;go_quiet (fail);first|rw[E.o]|rw[q.o]
  go_wp2_with fail;go_roundg (32-(j+1));exact⟨j+1,by omega,rfl,by go_num,rfl,Hd (Xxa a.o ⟨nq,rfl⟩)⟩;omega
 have g:l.take j=l:=List.take_of_length_le (by rw[n.o.len];omega);rw[g];obtain⟨s,e⟩:=xq (Xax (Xb5 l));have C:=Hd e;have M:s.size≤65:=by rw[e,Xat];simp[Xb9,n.o.len]
 rw[←e];clear e g;go_wp2_with fail;go_ret;exact⟨by rw[C.o];rfl,u.o.trans ((Dr.below a.o).mono u.o.size)⟩
theorem Yd4 (w:World){l:List Nat}(hl:IdOk l):zJ 106 #[.agg (idA l)] w (.string (Xax (Xfi l))):=by
 obtain⟨cs,a⟩:=xq (idA l);have D:=Hd (Yeb (w.alloc (.cells cs 160)) hl);have f:Hid (Bw w (w.alloc (.cells cs 160))):=Hd ((zR _ _).alloc (zL _) _);have c:=Hd (run_loadVar_row (P:=prog) (w.alloc (.cells cs 160)) w.heap.size _ 160 cs _ _ (heap_alloc_last w _) underlying160 rfl (by rw[a,Xaf,hl.len];kernel_rfl));rw[←a] at D⊢;obtain⟨t,b⟩:=xq (Xax (Xb5 l));rw[←b] at D;have h:=Hd b;have i:t.size≤64:=by rw[b,Xat,Xb9,hl.len];exact zL _
 have j:((⟨#[60]⟩:ByteArray)++t).size≤65:=by rw[ByteArray.size_append];show 1+t.size≤_;omega
 clear b a hl;go_enter func106,ntmps106;go_wp2_with ((with_reducible refine Xab 160 rfl _ rfl ?_);refine⟨_,_,rfl,c.o,?_⟩)
 refine D.o.mono ?_;rintro e w1 ⟨rfl,d⟩;have g:=bh f d;clear d D c;go_wp2_with fail;go_ret;exact⟨by show _=Ending.returned (Value.string (Xax (60::Xb5 l++sHash)));rw[Xcm,show(60::Xb5 l)=[60]++Xb5 l from rfl,Xcm,←h.o];rfl,g.o⟩
theorem Yd3 (w:World){l:List Nat}(hl:IdOk l):zJ 58 #[.agg (idA l)] w (.string (Xax (Xlh l))):=by
 obtain⟨cs,a⟩:=xq (idA l);obtain⟨p,b⟩:=xq (idA zero32);have i:IdOk zero32:=⟨by simp[zero32],fun x hx=>by simp[zero32] at hx;omega⟩
 have k:Hid (∀w,(Instr.build 26 #[]).run prog w=.ok (.agg p) w):=Hd (fun w=>by rw[b];kernel_rfl);have d:Hid (∀w,(Op.equal 26 (.agg cs) (.agg p)).run prog w=.ok (decide (l=zero32)) w):=Hd (fun w=>by rw[a,b];exact Yfq w hl i);have P:=Hd (Yd4 (w.alloc (.cells cs 26)) hl);have j:Hid (Bw w (w.alloc (.cells cs 26))):=Hd ((zR _ _).alloc (zL _) _);have f:=Hd (run_loadVar_row (P:=prog) (w.alloc (.cells cs 26)) w.heap.size _ 26 cs _ _ (heap_alloc_last w _) underlying26 rfl (by rw[a,Xaf,hl.len];exact Xbh));rw[←a] at P⊢;obtain⟨q,h⟩:=xq (decide (l=zero32));rw[←h] at d;have m:=Hd h;have c:Hid (Xlh l=if l=zero32 then[] else Xfi l):=Hd rfl;clear a b hl h;cases q
 ·have g:Hid (Xlh l=Xfi l):=Hd (by rw[c.o,qN (of_decide_eq_false m.o.symm)]);go_enter func58,ntmps58;go_wp2_with (first
   |((with_reducible refine Xab 26 rfl _ rfl ?_);refine⟨_,_,rfl,f.o,?_⟩)
   |((with_reducible refine Xah 26 rfl rfl ?_);refine⟨_,k.o _,?_⟩)
   |((with_reducible refine Xc8 26 rfl _ _ rfl Xn6 ?_);refine⟨_,_,_,rfl,rfl,d.o _,?_⟩))
  refine P.o.mono ?_;rintro e w1 ⟨rfl,n⟩;have r:=bh j n;clear n P f;go_wp2_with fail;go_ret;exact⟨by rw[g.o];rfl,r.o⟩
 have g:Hid (Xlh l=[]):=Hd (by rw[c.o,qP (of_decide_eq_true m.o.symm)]);go_enter func58,ntmps58;go_wp2_with (first
  |((with_reducible refine Xab 26 rfl _ rfl ?_);refine⟨_,_,rfl,f.o,?_⟩)
  |((with_reducible refine Xah 26 rfl rfl ?_);refine⟨_,k.o _,?_⟩)
  |((with_reducible refine Xc8 26 rfl _ _ rfl Xn6 ?_);refine⟨_,_,_,rfl,rfl,d.o _,?_⟩))
 go_ret;exact⟨by rw[g.o];rfl,j.o⟩
theorem Xp2 (c:List Nat)(x:List Nat):∀l:List (List Nat),Xa9 c (l++[x])=if l=[] then x else Xa9 c l++c++x
 |[]=>rfl
 |[y]=>by simp[Xa9]
 |y::z::r=>by have a:=Xp2 c x (z::r);rw[qN (by simp)] at a;rw[qN (by simp)];show y++c++Xa9 c ((z::r)++[x])=_;rw[a];simp[Xa9]
theorem Xuo (c:Nat):∀(l:List (List Nat)) (j:Nat),(Xa9 [c] (l.take j)).length≤(Xa9 [c] l).length
 |[],_=>by simp
 |[y],j=>by cases j<;>simp[Xa9]
 |y::z::r,0=>by simp[Xa9]
 |y::z::r,1=>by simp[Xa9]
 |y::z::r,j+2=>by have a:=Xuo c (z::r) (j+1);show(y++[c]++Xa9 [c] ((z::r).take (j+1))).length≤(y++[c]++Xa9 [c] (z::r)).length;simp only[List.length_append] at a⊢;omega
def Xcs (c:Nat)(gs:List ByteArray):ByteArray:=Xax (Xa9 [c] (gs.map bs))
theorem Xmm (c:Nat)(gs:List ByteArray)(g:ByteArray):Xcs c (gs++[g])=if gs=[] then g else Xcs c gs++Xax [c]++g:=by
 unfold Xcs;rw[List.map_append,List.map_cons,List.map_nil,Xp2];by_cases h:gs=[]
 ·rw[qP h,qP (by rw[h];rfl),Xe3]
 rw[qN h,qN (by simpa using h),Xcm,Xcm,Xe3]
theorem Xp3 (c:Nat)(gs:List ByteArray)(j:Nat):(Xcs c (gs.take j)).size≤(Xcs c gs).size:=by unfold Xcs;rw[Xat,Xat,List.map_take];exact Xuo c _ j
theorem Xpj (w:World)(v:Value)(gs:List ByteArray)(c:Nat)(hr:SRow w v gs)(hn:gs.length≤1000000)(f:(Xcs c gs).size≤100000000):Rx 57 #[v,.string (Xax [c])] w (.string (Xcs c gs)):=by
 obtain⟨a,cap,rfl,E,r⟩:=hr;obtain⟨n,l⟩:=xq gs.length;have C:=Hd l;have R:=Hd r;have A:=Hd f;rw[←l] at hn⊢;obtain⟨u,h⟩:=xq (Xax [c]);have I:u.size=1:=by rw[h];rfl
 have B:=Hd h;rw[←h];clear l r E h f;go_enter func57,ntmps57;go_wp2_with fail;go_loopg [5,6] n (fun k s i wr=>∃(j:Nat) (t:ByteArray),j≤n∧k=n-j∧i=.int .i64 (j:Int)∧s=.string t∧Hid (t=Xcs c (gs.take j))∧w=wr);exact⟨0,⟨#[]⟩,by omega,rfl,rfl,rfl,Hd rfl,rfl⟩;obtain⟨j,t,J,rfl,rfl,rfl,m,rfl⟩:=hrel;by_cases hlt:j<n
 ·have f:j<gs.length:=by rw[←C.o];exact hlt
  obtain⟨b,off,rfl,_,d⟩:=R.o (fun e=>by rw[e] at f;simp at f);obtain⟨g,y⟩:=xq (gs[j]);have F:w.cell? ⟨b,off+j,none⟩=some (.string g):=by rw[y];exact d j f
  have z:=Xp3 c gs (j+1);have p:=Xmm c (gs.take j) gs[j];rw[←List.take_succ_eq_append_getElem f,←y,←m.o,←B.o] at p;have O:t.size≤100000000:=by rw[m.o];exact Nat.le_trans (Xp3 c gs j) A.o
  have x:(Xcs c (gs.take (j+1))).size≤100000000:=Nat.le_trans z A.o;by_cases h0:j=0
  ·subst h0;have L:w.cell? ⟨b,off,none⟩=some (.string g):=F;have N:Hid (t++g=Xcs c (gs.take (0+1))):=Hd (by rw[p,qP (by simp),m.o];apply ByteArray.ext;simp[Xcs,Xa9,Xax]);have H:g.size≤100000000:=by rw[p,qP (by simp)] at x;exact x
   have P:(t++g).size≤100000000:=by rw[N.o];exact Nat.le_trans z A.o
   clear p z y d f x m;go_wp2_with fail;go_roundg (n-(0+1));exact⟨1,t++g,by omega,rfl,by go_num,rfl,N,rfl⟩;omega
  have q:gs.take j≠[]:=fun e=>by
   have D:(gs.take j).length=0:=by rw[e];rfl
   rw[List.length_take] at D;omega
  rw[qN q] at p;have N:Hid (t++u++g=Xcs c (gs.take (j+1))):=Hd p.symm;have M:(t++u).size≤100000001:=by rw[ByteArray.size_append];omega
  have G:(t++u++g).size≤100000000:=by rw[N.o];exact x
  have H:g.size≤100000000:=by rw[ByteArray.size_append] at G;omega
  have K:(0:Int)<(j:Int):=by omega
  clear p z y d f x m q;go_wp2_with fail;go_roundg (n-(j+1));exact⟨j+1,t++u++g,by omega,rfl,by go_num,rfl,N,rfl⟩;omega
 obtain rfl:j=n:=by omega
 have N:Hid (t=Xcs c gs):=Hd (by rw[m.o,List.take_of_length_le (by rw[C.o];exact zL _)]);clear m;go_wp2_with fail;go_ret;exact⟨by rw[←N.o];rfl,rfl⟩
theorem Xn8 {P:Program}{o:Oper}{a:Act}(w:World){t e:TypeId}{x:Operand}{v:Value}(ho:o.op=.buildSlice t 1 #[(0,x)])(hx:a.eval x=v)(h:(Instr.buildSlice t 1 #[(0,v)]).run P w=.ok (.slice (some ⟨w.heap.size,0,none⟩) 1 1) (w.alloc (.cells #[v] e))):(execOp a.eval o).run P w=.ok (.value (.slice (some ⟨w.heap.size,0,none⟩) 1 1)) (w.alloc (.cells #[v] e)):=by unfold execOp;rw[ho];simp only[List.map_toArray,List.map_cons,List.map_nil,hx];rw[Sem.run_bind,h];rfl
theorem Ymx (w:World)(n:Int):(Instr.buildSlice 82 1 #[(0,.int .u8 n)]).run prog w=.ok (.slice (some ⟨w.heap.size,0,none⟩) 1 1) (w.alloc (.cells #[.int .u8 n] 5)):=by kernel_rfl
theorem Yby (w:World)(g d:Nat)(hd:d<256)(h:w.heap[g]?=some (.cells #[.int .u8 (d:Int)] 5 (0,0))):(convert 82 9 (.slice (some ⟨g,0,none⟩) 1 1)).run prog w=.ok (.string (Xax [d])) w:=by
 have:=run_convert_bytes_back (P:=prog) w 82 9 5 ⟨g,0,none⟩ 1 [UInt8.ofNat d] underlying82 underlying5 underlying9 (fun j hj=>by
  obtain rfl:j=0:=by simpa using hj
  show w.cell? ((⟨g,0,none⟩:Addr).add 0)=_;rw[Addr.add_mid,cell_of_row w g (0+0) _ _ _ h];simp[Nat.mod_eq_of_lt hd])
 exact this
theorem Xzx:∀(k u:Nat) (G:u<10^(k+1)) (M:u<18446744073709551616) (V:k≤30) (w:World),zJ 105 #[.int .u64 (u:Int)] w (.string (Xax (Xiw k u))):=by
 intro k
 induction k with
 |zero=>
  intro u G M V w;have L:(u:Int)<10:=by omega
  obtain⟨d,z⟩:=xq (48+u);have m:d<256:=by omega
  have U:(48:Int)+(u:Int)=(d:Int):=by omega
  have b:Hid (Xax (Xiw 0 u)=Xax [d]):=Hd (by show Xax [48+u%10]=_;rw[z,Nat.mod_eq_of_lt (by omega)]);have c:=Hd m;clear z G;go_enter func105,ntmps105;go_wp2_with (first
   |((with_reducible refine Xe1 82 9 rfl _ rfl ?_);refine⟨_,_,_,rfl,Yby (w.alloc (.cells #[.int .u8 (d:Int)] 5)) w.heap.size d c.o (heap_alloc_last w _),?_⟩))
  go_ret;exact⟨by rw[b.o];rfl,(zR _ _).alloc (zL _) _⟩
 |succ k ih=>
  intro u G M V w;by_cases h10':u<10
  ·have L:(u:Int)<10:=by omega
   obtain⟨d,z⟩:=xq (48+u);have m:d<256:=by omega
   have U:(48:Int)+(u:Int)=(d:Int):=by omega
   have b:Hid (Xax (Xiw (k+1) u)=Xax [d]):=Hd (by unfold Xiw;rw[qP h10',z]);have c:=Hd m;clear z G ih;go_enter func105,ntmps105;go_wp2_with (first
    |((with_reducible refine Xe1 82 9 rfl _ rfl ?_);refine⟨_,_,_,rfl,Yby (w.alloc (.cells #[.int .u8 (d:Int)] 5)) w.heap.size d c.o (heap_alloc_last w _),?_⟩))
   go_ret;exact⟨by rw[b.o];rfl,(zR _ _).alloc (zL _) _⟩
  have L:¬((u:Int)<10):=by omega
  obtain⟨q,S⟩:=xq (u/10);obtain⟨r,W⟩:=xq (u%10);obtain⟨d,z⟩:=xq (48+r);have m:d<256:=by omega
  have C:Hid (∀wx:World,zJ 105 #[.int .u64 (q:Int)] wx (.string (Xax (Xiw k q)))):=Hd (fun wx=>ih q (by rw[S];rw[Nat.pow_succ] at G;omega) (by omega) (by omega) wx);have b:Hid (Xax (Xiw k q)++Xax [d]=Xax (Xiw (k+1) u)):=Hd (by
   rw[←Xcm]
   conv=>rhs;unfold Xiw
   rw[qN h10',S,z,W])
  have zt:(Xax (Xiw k q)).size≤31:=by rw[Xat];have:=Xob k q;omega
  obtain⟨t,X⟩:=xq (Xax (Xiw k q));rw[←X] at C b zt;have U:(u:Int)/10=(q:Int):=by omega
  have Y:(u:Int).tdiv 10=(q:Int):=by rw[Int.tdiv_eq_ediv_of_nonneg (by omega)];omega
  have e2:(u:Int)%10=(r:Int):=by omega
  have Z:(u:Int).tmod 10=(r:Int):=by rw[Int.tmod_eq_emod_of_nonneg (by omega)];omega
  have e3:(48:Int)+(r:Int)=(d:Int):=by omega
  have e4:((48:Int)+(r:Int))%18446744073709551616=(d:Int):=by omega
  have e5:(d:Int)%256=(d:Int):=by omega
  have e6:(d:Int)%18446744073709551616=(d:Int):=by omega
  have zd:(Xax [d]).size=1:=rfl;have aA:t.size≤9223372036854775806:=by omega
  have w1:IntKind.u64.wrap (q:Int)=(q:Int):=IntWalk.u64_in _ (by omega);have w2:IntKind.u64.wrap (d:Int)=(d:Int):=IntWalk.u64_in _ (by omega);have w3:IntKind.u8.wrap (d:Int)=(d:Int):=IntWalk.u8_in _ (by omega);have w4:IntKind.u64.wrap (r:Int)=(r:Int):=IntWalk.u64_in _ (by omega);have za:(t++Xax [d]).size≤32:=by rw[ByteArray.size_append];omega
  have c:=Hd m;obtain⟨H,E⟩:=xq (Xax [d]);rw[←E] at b zd za;have D:=Hd E;clear S W z G ih X E;go_enter func105,ntmps105;go_upto_region 3 with fail;refine wp_region_any (by kernel_rfl) ?_;change wpAny _ _ _ _ _ _ _ w.drew;obtain⟨A,F⟩:=xq w.drew;rw[←F];have B:Hid (Bw w A):=Hd (by rw[F];exact(zR _ _).drew);clear F;refine wpAny_take (i:=0) (v:=.int .u64 (u:Int)) rfl (by kernel_rfl) (by kernel_rfl) (by kernel_rfl) (fun _ _ _ h=>h) (Or.inl ⟨by kernel_rfl,fun w'=>by go_simp⟩) ?_;refine wpAny_take (i:=1) (v:=.int .u64 (q:Int)) rfl (by kernel_rfl) (by kernel_rfl) (by kernel_rfl) (fun _ _ _ h=>h) (Or.inl ⟨by kernel_rfl,fun w'=>by go_simp⟩) ?_;refine wpAny_take (i:=3) (v:=.int .u64 (u:Int)) rfl (by kernel_rfl) (by kernel_rfl) (by kernel_rfl) (fun _ _ _ h=>h) (Or.inl ⟨by kernel_rfl,fun w'=>by go_simp⟩) ?_;refine wpAny_take (i:=4) (v:=.int .u64 (r:Int)) rfl (by kernel_rfl) (by kernel_rfl) (by kernel_rfl) (fun _ _ _ h=>h) (Or.inl ⟨by kernel_rfl,fun w'=>by go_simp⟩) ?_;refine wpAny_take (i:=5) (v:=.int .u64 (d:Int)) rfl (by kernel_rfl) (by kernel_rfl) (by kernel_rfl) (fun _ _ _ h=>h) (Or.inl ⟨by kernel_rfl,fun w'=>by go_simp⟩) ?_;refine wpAny_take (i:=6) (v:=.int .u8 (d:Int)) rfl (by kernel_rfl) (by kernel_rfl) (by kernel_rfl) (fun _ _ _ h=>h) (Or.inl ⟨by kernel_rfl,fun w'=>by go_simp⟩) ?_;refine Xoo (i:=2) (k:=7) (by kernel_rfl) ?_ ?_;·skip;refine Xao (f:=105) (args:=#[.int .u64 (q:Int)]) rfl rfl (by kernel_rfl) ?_;refine(C.o A).mono ?_;rintro e I ⟨rfl,n⟩;have J:=bh B n;clear n;refine⟨_,rfl,?_⟩;refine Xbc (i:=7) (by kernel_rfl) ?_;refine Xan rfl rfl (Xn8 I rfl (by kernel_rfl) (Ymx I (d:Int))) ?_;obtain⟨T,p⟩:=xq (I.alloc (.cells #[.int .u8 (d:Int)] 5));rw[←p];have P:Hid (Bw w T):=Hd (by rw[p];exact J.o.alloc J.o.size _);have j:Hid (T.heap[I.heap.size]?=some (.cells #[.int .u8 (d:Int)] 5 (0,0))):=Hd (by rw[p];exact heap_alloc_last I _);obtain⟨g,N⟩:=xq I.heap.size;rw[←N] at j⊢;clear p N;refine Xbc (i:=8) (by kernel_rfl) ?_;have l:=Yby T g d c.o j.o;rw[←D.o] at l;refine Xbr rfl rfl (Xd7 (s:=82) (d:=9) (x:=.tmp 17) (u:=.slice (some ⟨g,0,none⟩) 1 1) rfl (by kernel_rfl) l) ?_;clear l;refine Xbc (i:=9) (by kernel_rfl) ?_;refine Xbr (v:=.string (t++H)) rfl rfl (by go_simp) ?_;refine Xbc (i:=10) (by kernel_rfl) ?_;refine Xbr (v:=.string (t++H)) rfl rfl (by go_simp) ?_;refine wpAny_done (by kernel_rfl) ?_ _;go_simp;refine‹∀(a:Act) (w_1:World),_→_› _ _ ?_;go_wp2_with fail;go_ret;exact⟨by rw[←b.o];rfl,P.o⟩
  skip;refine Xan rfl rfl (Xn8 A rfl (by kernel_rfl) (Ymx A (d:Int))) ?_;obtain⟨O,y⟩:=xq (A.alloc (.cells #[.int .u8 (d:Int)] 5));rw[←y];have K:Hid (Bw w O):=Hd (by rw[y];exact B.o.alloc B.o.size _);have j:Hid (O.heap[A.heap.size]?=some (.cells #[.int .u8 (d:Int)] 5 (0,0))):=Hd (by rw[y];exact heap_alloc_last A _);obtain⟨g,N⟩:=xq A.heap.size;rw[←N] at j⊢;clear y N;refine Xoo (i:=2) (k:=8) (by kernel_rfl) ?_ ?_;·skip;refine Xao (f:=105) (args:=#[.int .u64 (q:Int)]) rfl rfl (by kernel_rfl) ?_;refine(C.o O).mono ?_;rintro e y4 ⟨rfl,n⟩;have Q:=bh K n;replace j:=Hd ((n.block _ (zY j.o)).trans j.o);clear n;refine⟨_,rfl,?_⟩;refine Xbc (i:=8) (by kernel_rfl) ?_;have l:=Yby y4 g d c.o j.o;rw[←D.o] at l;refine Xbr rfl rfl (Xd7 (s:=82) (d:=9) (x:=.tmp 17) (u:=.slice (some ⟨g,0,none⟩) 1 1) rfl (by kernel_rfl) l) ?_;clear l;refine Xbc (i:=9) (by kernel_rfl) ?_;refine Xbr (v:=.string (t++H)) rfl rfl (by go_simp) ?_;refine Xbc (i:=10) (by kernel_rfl) ?_;refine Xbr (v:=.string (t++H)) rfl rfl (by go_simp) ?_;refine wpAny_done (by kernel_rfl) ?_ _;go_simp;refine‹∀(a:Act) (w_1:World),_→_› _ _ ?_;go_wp2_with fail;go_ret;exact⟨by rw[←b.o];rfl,Q.o⟩
  skip;have l:=Yby O g d c.o j.o;rw[←D.o] at l;refine Xbr rfl rfl (Xd7 (s:=82) (d:=9) (x:=.tmp 17) (u:=.slice (some ⟨g,0,none⟩) 1 1) rfl (by kernel_rfl) l) ?_;clear l;refine Xbc (i:=2) (by kernel_rfl) ?_;refine Xao (f:=105) (args:=#[.int .u64 (q:Int)]) rfl rfl (by kernel_rfl) ?_;refine(C.o O).mono ?_;rintro e y5 ⟨rfl,n⟩;have R:=bh K n;replace j:=Hd ((n.block _ (zY j.o)).trans j.o);clear n;refine⟨_,rfl,?_⟩;refine Xbc (i:=9) (by kernel_rfl) ?_;refine Xbr (v:=.string (t++H)) rfl rfl (by go_simp) ?_;refine Xbc (i:=10) (by kernel_rfl) ?_;refine Xbr (v:=.string (t++H)) rfl rfl (by go_simp) ?_;refine wpAny_done (by kernel_rfl) ?_ _;go_simp;refine‹∀(a:Act) (w_1:World),_→_› _ _ ?_;go_wp2_with fail;go_ret;exact⟨by rw[←b.o];rfl,R.o⟩
theorem Xgx (n:Int)(h0:0≤n)(h1:n≤9223372036854775807)(w:World):zJ 56 #[.int .i64 n] w (.string (Xax (Xfh n))):=by
 obtain⟨u,rfl⟩:∃u:Nat,n=u:=⟨n.toNat,by omega⟩
 have P:=Hd (Xzx 20 u (by omega) (by omega) (by omega) w);have R:Hid (Xfh (u:Int)=Xiw 20 u):=Hd (by rw[Xoc (by omega)];rfl);have f:¬((u:Int)<0):=by omega
 have d:(u:Int)%18446744073709551616=(u:Int):=by omega
 obtain⟨t,a⟩:=xq (Xax (Xiw 20 u));rw[←a] at P;have c:=Hd a;clear a;go_enter func56,ntmps56;go_wp2_with fail;refine P.o.mono ?_;rintro e w1 ⟨rfl,b⟩;have B:=Hd b;clear b P;go_wp2_with fail;go_ret;exact⟨by rw[R.o,←c.o];rfl,B.o⟩
def alphS:ByteArray:=⟨#[65,66,67,68,69,70,71,72,73,74,75,76,77,78,79,80,81,82,83,84,85,86,87,88,89,90,97,98,99,100,101,102,103,104,105,106,107,108,109,110,111,112,113,114,115,116,117,118,119,120,121,122,48,49,50,51,52,53,54,55,56,57,43,47]⟩
theorem Xqz (q:Nat)(h:q<256):bits .and .u8 (q:Int) 1=((q%2:Nat):Int):=by
 have:∀q:Fin 256,bits .and .u8 ((q.val:Nat):Int) 1=((q.val%2:Nat):Int):=by decide+kernel
 exact this ⟨q,h⟩
theorem Xgw (a b:List Nat):Xax a++Xax b=Xax (a++b):=by apply ByteArray.ext;simp[Xax]
theorem Xq2 (v:Nat)(h:v<64):alphS.extract v (v+1)=Xax [al v]:=by
 have:∀v:Fin 64,alphS.extract v.val (v.val+1)=Xax [al v.val]:=by decide+kernel
 exact this ⟨v,h⟩
theorem Xrn (w:World)(a:Option Addr)(cap:Nat)(l:List Nat)(hl:l.length≤400000)(hrd:Rd w a l):Rx 107 #[.slice a l.length cap] w (.string (Xax (Xi8 l))):=by
 obtain⟨n,hn⟩:=xq l.length;have HC:=Hd hrd.at_;have Z:=Hd hrd.lt;have HN:=Hd hn;rw[←hn];have aK:n≤400000:=by omega
 clear hrd hl hn;go_enter func107,ntmps107;go_wp2_with fail;go_loopg [3,4,5,6] n (fun k o v h i wr=>∃(j b c:Nat) (xs:List Nat),w=wr∧j≤n∧k=n-j∧i=.int .i64 (j:Int)∧v=.int .i64 (b:Int)∧h=.int .i64 (c:Int)∧o=.string (Xax xs)∧Xgm (l.take j)=(b,c,xs));exact⟨0,0,0,[],rfl,by omega,by omega,rfl,rfl,rfl,rfl,rfl⟩;obtain⟨j,b,c,xs,rfl,hj,rfl,rfl,rfl,rfl,rfl,e⟩:=hrel;have C:∀x∈l.take j,x<256:=fun x Y=>Z.o x (List.mem_of_mem_take Y);have A:=Xhn (l.take j) C;have E:=Yft (l.take j) C;rw[e] at A E;obtain⟨i1,W,X⟩:=A;simp only[List.length_take] at i1 W X E;have hxl:xs.length≤900000:=by omega
 clear C;by_cases hlt:j<n
 ·have H:j<l.length:=by rw[←HN.o];exact hlt
  obtain⟨bb,off,rfl,aH,r⟩:=HC.o (by omega);have Y:w.cell? ⟨bb,off+j,none⟩=some (U l[j]):=r j H;clear r;have hg:l[j]<256:=Z.o _ (zG H);obtain⟨g,G⟩:=xq (l[j]);rw[←G] at Y hg;unfold U at Y;have ST:=Hd e;have HG:=Hd G;have M:=Hd W;have I3:=Hd X;clear e G W X;go_wp2_with fail;go_loopg [3,4,5,7] 8 (fun k o v h i wr=>∃(m u f:Nat) (ys:List Nat),w=wr∧m≤8∧k=8-m∧i=.int .i64 (7-(m:Int))∧v=.int .i64 (u:Int)∧h=.int .i64 (f:Int)∧o=.string (Xax ys)∧Xc1 (b,c,xs) g m=(u,f,ys));exact⟨0,b,c,xs,rfl,by omega,by omega,rfl,rfl,rfl,rfl,rfl⟩;obtain⟨m,u,f,ys,rfl,N,rfl,rfl,rfl,rfl,rfl,p⟩:=hrel;have d:=Xxv (s:=(b,c,xs)) (g:=g) i1 M.o m;rw[p] at d;simp only at d;by_cases hm8:m<8
  ·obtain⟨k,hk⟩:=xq (7-m);obtain⟨q,y⟩:=xq (g/2^k);obtain⟨t,J⟩:=xq (q%2);have I:q<256:=by rw[y];exact Nat.lt_of_le_of_lt (Nat.div_le_self _ _) hg
   have ek:(7:Int)-(m:Int)=(k:Int):=by omega
   have e1:(g:Int)/2^k=(q:Int):=by rw[y];push_cast;rfl
   have e2:Go.bits .and .u8 (q:Int) 1=(t:Int):=by rw[J];exact Xqz q I
   have aL:t<2:=by omega
   have aG:u<64:=Nat.lt_of_lt_of_le d.2.1 (by have:2^f≤2^6:=Nat.pow_le_pow_right (by omega) (by omega);omega);have BR:=Hd p;have K:=Hd hk;have Q:=Hd y;have T:=Hd J;have BI:=Hd d;have aI:f<6:=d.1;clear p hk y J d;by_cases h6:f+1=6
   ·have aB:((f:Int)+1==6)=true:=Xa8 (by omega);have aD:2*u+t<64:=by
     have:=BI.o.2.1;obtain rfl:f=5:=by omega
     omega
    have F:=Xq2 (2*u+t) aD;unfold alphS at F;have P:(Xax ys).size≤2000000:=by rw[Xat];have:=BI.o.2.2;omega
    have R:(Xax [al (2*u+t)]).size=1:=Xat _;go_wp2_with fail;go_roundg (8-(m+1))
    ·refine⟨m+1,0,0,ys++[al (2*u+t)],rfl,by omega,rfl,by go_num,rfl,rfl,?_,?_⟩;·exact congrArg Value.string (Xgw _ _)
     rw[Xc1,BR.o,Xe9,qP h6,←K.o,←Q.o,←T.o]
    omega
   have aB:((f:Int)+1==6)=false:=Xar (by omega);go_wp2_with fail;go_roundg (8-(m+1));·refine⟨m+1,2*u+t,f+1,ys,rfl,by omega,rfl,by go_num,by go_num,by go_num,rfl,?_⟩;rw[Xc1,BR.o,Xe9,qN h6,←K.o,←Q.o,←T.o]
   omega
  obtain rfl:m=8:=by omega
  have D:=Xxw (s:=(b,c,xs)) (g:=g) i1 E M.o hg;rw[p] at D;have BE:=Hd D;clear D p d;go_wp2_with fail;go_roundg (n-(j+1));·refine⟨j+1,u,f,ys,rfl,by omega,rfl,by go_num,rfl,rfl,rfl,?_⟩;rw[List.take_succ_eq_append_getElem H,Xms,ST.o,←HG.o,BE.o]
  omega
 obtain rfl:j=n:=by omega
 rw[List.take_of_length_le (by rw[HN.o];exact zL _)] at e;have EF:=Hd (Ybq e);have S:=Xk3 b c xs j (by rw[X,HN.o,Nat.min_self]);have M:=Hd W;clear e X HC Z W
 go_upto_if 40 with fail
 go_cut [3,40] (fun o _t wx=>o=.string (Xax (Xbp (b,c,xs)))∧w=wx)
 ·by_cases hc0:0<c
  ·go_wp2_with fail;go_loopg [4,5] (6-c) (fun k v h wr=>∃(q m:Nat),w=wr∧c≤m∧m≤6∧k=6-m∧q=b*2^(m-c)∧q<2^m∧v=.int .i64 (q:Int)∧h=.int .i64 (m:Int));exact⟨b,c,rfl,zL _,by omega,rfl,by simp,M.o,rfl,rfl⟩;obtain⟨q,m,rfl,aJ,aC,rfl,y,z,rfl,rfl⟩:=hrel;have O:q<64:=Nat.lt_of_lt_of_le z (Nat.pow_le_pow_right (n:=2) (by omega) aC);by_cases hm6:m<6
   ·have HQ:=Hd y;have QM:=Hd z;clear y z;go_wp2_with fail;go_roundg (6-(m+1))
    ·refine⟨2*q,m+1,rfl,by omega,by omega,rfl,?_,?_,by go_num,by go_num⟩;·rw[HQ.o,show m+1-c=(m-c)+1 by omega,Nat.pow_succ,Nat.mul_comm 2,Nat.mul_assoc]
     have:=QM.o;rw[Nat.pow_succ];omega
    omega
   obtain rfl:m=6:=by omega
   have F:=Xq2 q O;unfold alphS at F;have P:(Xax xs).size≤2000000:=by rw[Xat];omega
   have R:(Xax [al q]).size=1:=Xat _;have HQ:=Hd y;clear y z;go_wp2_with fail;go_meet;refine⟨?_,rfl⟩;rw[Xbp,qP hc0];simp only;rw[←HQ.o];exact congrArg Value.string (Xgw _ _)
  have aF:decide (0<c)=false:=by simp;omega
  go_wp2_with fail;go_meet;refine⟨?_,rfl⟩;rw[Xbp,qN hc0]
 obtain⟨rfl,rfl⟩:=hcut;obtain⟨ts,V⟩:=xq (Xbp (b,c,xs));rw[←V] at EF S⊢;clear V M;go_wp2_with fail;go_loopg [3] ((4-ts.length%4)%4) (fun k o wr=>∃ys,w=wr∧o=.string (Xax ys)∧ys.length+k≤900000∧k=(4-ys.length%4)%4∧Xq4 ys=Xi8 l);exact⟨ts,rfl,rfl,by omega,rfl,EF.o⟩;obtain⟨ys,rfl,rfl,aE,rfl,B⟩:=hrel;have HP:=Hd B;obtain⟨m,N⟩:=xq ys.length;have P:(Xax ys).size=m:=by rw[Xat,N]
 have L:=Hd N;rw[←N] at aE;clear B S N;by_cases h4:m%4=0;·have aA:((m:Int)%4 !=0)=false:=Xaw (by omega);go_wp2_with fail;go_ret;exact⟨by rw[←HP.o,Xpy _ (by rw[←L.o];exact h4)];rfl,rfl⟩
 have aA:((m:Int)%4 !=0)=true:=Xaq (by omega);go_wp2_with fail;go_roundg ((4-(m+1)%4)%4);case measure=>rw[←L.o];omega
 case rel=>
  refine⟨ys++[61],rfl,?_,?_,?_,?_⟩;·exact congrArg Value.string (Xgw ys [61])
  ·simp;rw[←L.o];omega
  ·simp;rw[←L.o]
  rw[Xpx _ (by rw[←L.o];exact h4)];exact HP.o
theorem Xwe (w:World)(h:Int){r:List Nat}(hr:B16 r):Calls prog 108 #[.int .i64 h,.agg (idA r)] w fun e w'=>∃a cap,e=.returned (.slice a 17 cap)∧Rd w' a ((h%256).toNat::r)∧Bw w w':=by
 obtain⟨T,D,F,G,H⟩:=info_parts Xgl;obtain⟨b,M⟩:=xq ((h%256).toNat);have C:b<256:=by omega
 have B:h%256=(b:Int):=by omega
 obtain⟨cs,p⟩:=xq (idA r);obtain⟨w0,l⟩:=xq (w.alloc (.cells cs 22));have I:Hid (Bw w w0):=Hd (by rw[l];exact(zR _ _).alloc (zL _) _);have Q:Hid (IB w0 w.heap.size 22 r):=Hd (by unfold IB;rw[l,p];exact heap_alloc_last w _);obtain⟨w1,d⟩:=xq (w0.alloc (.cells #[.int .u8 (b:Int)] 5));have J:Hid (Bw w w1):=Hd (by rw[d];exact I.o.alloc I.o.size _);have q:Hid (w1.ownsRow w0.heap.size 5 1 (.slice (some ⟨w0.heap.size,0,none⟩) 1 1) 1 [.int .u8 (b:Int)]):=Hd (by rw[d];exact⟨rfl,.inr ⟨w0.heap.size,1,#[.int .u8 (b:Int)],rfl,zL _,heap_alloc_last w0 _,zL _,by decide,rfl,rfl⟩⟩);have z:Hid (∀j u,(r.map U)[j]?=some u→w1.cell? ((⟨w.heap.size,0,none⟩:Addr).add j)=some u):=Hd (fun j u hu=>by
  have V:IB w1 w.heap.size 22 r:=by rw[d];exact Q.o.below ((zR _ _).alloc (zL _) _)
  rw[Addr.add_mid,cell_of_row w1 _ (0+j) _ _ _ V,Nat.zero_add];unfold idA;rw[List.getElem?_toArray];exact hu)
 have v:w0.heap.size=w.heap.size+1:=by rw[l];simp
 have R:=Hd hr.len;have m:Hid (∀v' w2,w2.ownsRow w0.heap.size 5 1 v' 17 ([.int .u8 (b:Int)]++r.map U)→w1.grownBy w2 (some w0.heap.size)→∃a cap,v'=.slice a 17 cap∧Rd w2 a (b::r)∧Bw w w2):=Hd (fun v' w2 h1 h2=>by
  have o:OW w0.heap.size (b::r) v' w2:=by unfold OW;rw[List.length_cons,hr.len];exact h1
  obtain⟨g,c,rfl,_⟩:=o.slice (by simp);refine⟨some ⟨g,0,none⟩,c,by rw[List.length_cons,hr.len],Yec (n:=17) (cap:=c) (by have:=o;unfold OW at this;rw[List.length_cons,hr.len] at this;exact this) (fun x E=>?_),Below.grown J.o h2 J.o.size (fun k hk=>by cases hk;omega)⟩;rcases List.mem_cons.1 E with rfl|E;·exact C
  exact hr.lt x E)
 have s:=Hd l;have t:Hid (w1=w0.alloc (.cells #[.int .u8 (h%256)] 5)):=Hd (by rw[B];exact d);have Y:=Hd B;rw[v] at q m;have S:Hid (w.heap.size+1≤w1.heap.size):=Hd (by rw[d];simp;omega);have A:=Hd v;rw[←p];have P:=Hd M;clear M p l d hr v B;go_enter func108,ntmps108;go_upto_region 1 with fail;rw[←s.o];have X:=A.o;go_wp2_with (at_builtin;first
  |(rw[←t.o];refine wpList_append_own _ rfl _ _ 82 rfl (w.heap.size+1) 5 T (.int .u8 0) 1 1 underlying82 D F G H rfl (by decide) _ 1 [.int .u8 (b:Int)] rfl q.o ⟨w.heap.size,0,none⟩ 16 16 (r.map U) rfl (by rw[List.length_map,R.o]) z.o (fun u hu=>by obtain⟨y,_,rfl⟩:=List.mem_map.1 hu;rfl) (by unfold maxLen;omega) (by omega) S.o ?_;intro v' W i f _))
 obtain⟨a,cap,rfl,K,L⟩:=m.o _ W i f;have N:=Hd K;have O:=Hd L;clear i f K L m;go_wp2_with fail;go_ret;exact⟨a,cap,rfl,by rw[←P.o];exact N.o,O.o⟩
theorem Xgc {n:Int}(h:0≤n):(Xfh n).length≤21:=by rw[Xoc h];exact Xob 20 _
theorem Yhn {l:List Nat}(h:∀x∈l,x<256)(hl:l.length=17):(Xi8 l).length≤1000:=by rw[Xoa l h,hl];decide
theorem Ydw (w:World)(c:Cn)(ok:c.Ok)(hnum:0≤c.number)(gv rv:Value):zJ 59 #[.agg (c.cells gv rv)] w (.string (Xax (Xun c.p))):=by
 obtain⟨w0,j⟩:=xq (w.alloc (.cells (c.cells gv rv) 28));have I:Bw w w0:=by rw[j];exact(zR _ _).alloc (zL _) _
 have J:CB w0 w.heap.size c gv rv 28:=by unfold CB;rw[j];exact heap_alloc_last w _
 have C:=Hd ok;obtain⟨z,m⟩:=xq (idA c.root);have B:Hid (∀wx,CB wx w.heap.size c gv rv 28→Ld 22 ⟨w.heap.size,57,none⟩ wx (.agg z)):=Hd (fun wx h=>by rw[m];exact CB.root16 h C.o);obtain⟨q,g⟩:=xq ((c.height%256).toNat::c.root);have D:q.length=17:=by rw[g,List.length_cons,ok.root.len]
 have O:∀x∈q,x<256:=by
  intro x y;rw[g] at y;rcases List.mem_cons.1 y with rfl|y;·omega
  exact ok.root.lt x y
 obtain⟨d,u⟩:=xq (Xax (Xfh c.number));obtain⟨t,v⟩:=xq (Xax (Xi8 q));have P:Hid (∀wx:World,zJ 56 #[.int .i64 c.number] wx (.string d)):=Hd (fun wx=>by rw[u];exact Xgx c.number hnum (Xhk ok.number).2 wx);have Q:Hid (∀wx:World,Calls prog 108 #[.int .i64 c.height,.agg z] wx fun e w'=>∃a cap,e=.returned (.slice a 17 cap)∧Rd w' a q∧Bw wx w'):=Hd (fun wx=>by rw[m,g];exact Xwe wx c.height ok.root);have R:Hid (∀(wx:World) a cap,Rd wx a q→Rx 107 #[.slice a 17 cap] wx (.string t)):=Hd (fun wx a cap k=>by have:=Xrn wx a cap q (by omega) k;rw[D] at this;rw[v];exact this);have zd:d.size≤21:=by rw[u,Xat];exact Xgc hnum
 have zt:t.size≤1000:=by rw[v,Xat];exact Yhn O D
 have W:(d++(⟨#[32]⟩:ByteArray)).size≤22:=by rw[ByteArray.size_append];show d.size+1≤_;omega
 have X:d.size≤9223372036854775806:=by omega
 have Y:(d++(⟨#[32]⟩:ByteArray)).size+t.size≤9223372036854775807:=by omega
 have Z:d.size+1+t.size≤9223372036854775807:=by omega
 have E:Hid (d++(⟨#[32]⟩:ByteArray)++t=Xax (Xun c.p)):=Hd (by rw[u,v,show(⟨#[32]⟩:ByteArray)=Xax [32] from rfl,←Xcm,←Xcm,g];unfold Xun Ylj;simp[Cn.p]);obtain⟨cs,s⟩:=xq (c.cells gv rv);rw[←s] at j⊢;have N:=Hd j;have l:=Hd J;have A:=Hd I;clear j s m g u v D O J I ok hnum;go_enter func59,ntmps59;go_upto_region 1 with fail;rw[←N.o];clear N;refine wp_region_held (S:=fun wx=>CB wx w.heap.size c gv rv 28) (by kernel_rfl) ?_;change wpAnyH _ _ _ _ _ _ _ _ w0.drew;obtain⟨F,n⟩:=xq w0.drew;rw[←n];have K:Hid (Bw w0 F):=Hd (by rw[n];exact(zR _ _).drew);clear n;have b:(fun wx:World=>CB wx w.heap.size c gv rv 28) F:=l.o.on K.o;refine Xae 0 (.pointer (some ⟨w.heap.size,55,none⟩)) rfl (fun _ _=>by go_simp) b ?_;refine Xae 1 (.int .i64 c.number) rfl (fun w' hw'=>by have U:=hw'.at (Yb4 C.o gv rv);go_simp) b ?_;refine Xae 4 (.pointer (some ⟨w.heap.size,56,none⟩)) rfl (fun _ _=>by go_simp) b ?_;refine Xae 5 (.int .i64 c.height) rfl (fun w' hw'=>by have U:=hw'.at (Yb3 C.o gv rv);go_simp) b ?_;refine Xae 6 (.pointer (some ⟨w.heap.size,57,none⟩)) rfl (fun _ _=>by go_simp) b ?_;refine Xae 7 (.agg z) rfl (fun w' hw'=>Xaj (ty:=22) (x:=.tmp 9) (ad:=⟨w.heap.size,57,none⟩) rfl (by kernel_rfl) (B.o w' hw')) b ?_;refine Xag (i:=2) (by kernel_rfl) ?_;refine Xao (f:=56) (args:=#[.int .i64 c.number]) rfl rfl (by kernel_rfl) ?_;refine(P.o F).mono ?_;rintro e G ⟨rfl,r⟩;have L:=bh K r;clear r;replace b:=l.o.on L.o;refine⟨_,rfl,b,?_⟩;refine Xae 3 (.string (d++(⟨#[32]⟩:ByteArray))) rfl (fun _ _=>by go_simp) b ?_;refine Xag (i:=8) (by kernel_rfl) ?_;refine Xao (f:=108) (args:=#[.int .i64 c.height,.agg z]) rfl rfl (by kernel_rfl) ?_;refine(Q.o G).mono ?_;rintro e H ⟨a,cap,rfl,k,r⟩;have M:=bh L r;have T:=Hd k;clear r k;replace b:=l.o.on M.o;refine⟨_,rfl,b,?_⟩;refine Xag (i:=9) (by kernel_rfl) ?_;refine Xao (f:=107) (args:=#[.slice a 17 cap]) rfl rfl (by kernel_rfl) ?_;refine(R.o H a cap T.o).mono ?_;rintro e V ⟨rfl,rfl⟩;refine⟨_,rfl,b,?_⟩;refine Xae 10 (.string (d++(⟨#[32]⟩:ByteArray)++t)) rfl (fun _ _=>by go_simp) b ?_;refine Xae 11 (.string (d++(⟨#[32]⟩:ByteArray)++t)) rfl (fun _ _=>by go_simp) b ?_;refine wpAnyH_done (by kernel_rfl) ?_ _;go_simp;refine‹∀(a:Act) (w_1:World),_→_› _ _ ?_;go_wp2_with fail;go_ret;exact⟨by rw[←E.o];rfl,bg A.o M.o⟩
theorem Yj9:∀l:List Value,l.length=32→prog.builtSlice 118 1 [(0,.agg l.toArray)]=some l.toArray
 |[a0,a1,a2,a3,a4,a5,a6,a7,a8,a9,a10,a11,a12,a13,a14,a15,a16,a17,a18,a19,a20,a21,a22,a23,a24,a25,a26,a27,a28,a29,a30,a31],_=>by kernel_rfl
theorem Ymj:∀(l:List Value),l.length=32→Array.foldl (fun(cs:Array Value) (x:Value×Nat)=>cs.setIfInBounds x.snd x.fst) #[Value.int .u8 0,.int .u8 0,.int .u8 0,.int .u8 0,.int .u8 0,.int .u8 0,.int .u8 0,.int .u8 0,.int .u8 0,.int .u8 0,.int .u8 0,.int .u8 0,.int .u8 0,.int .u8 0,.int .u8 0,.int .u8 0,.int .u8 0,.int .u8 0,.int .u8 0,.int .u8 0,.int .u8 0,.int .u8 0,.int .u8 0,.int .u8 0,.int .u8 0,.int .u8 0,.int .u8 0,.int .u8 0,.int .u8 0,.int .u8 0,.int .u8 0,.int .u8 0] l.toArray.zipIdx 0 l.toArray.size=l.toArray
 |[a0,a1,a2,a3,a4,a5,a6,a7,a8,a9,a10,a11,a12,a13,a14,a15,a16,a17,a18,a19,a20,a21,a22,a23,a24,a25,a26,a27,a28,a29,a30,a31],_=>by kernel_rfl
theorem Yl7:(prog.info? 118).map (fun i=>(i.zero,i.size,i.bytes))=some (some (.agg (idA zero32)),32,32):=by kernel_rfl
theorem Xnf:(prog.info? 118).map (·.size)=some 32:=by kernel_rfl
theorem Xp6 (l:List (List Nat))(x:List Nat):Xa2 (l++[x])=Xa2 l++x.map U:=by simp[Xa2]
theorem Yem {T:TypeId}{w:World}{base:Nat}{v:Value}{l:List (List Nat)}(ho:∀x∈l,IdOk x)(h:w.ownsRow base T 32 v l.length (Xa2 l)):IRow w v l:=by
 rcases h.2 with⟨rfl,h0⟩|⟨g,cap,cur,rfl,hb,hg,hc,_,hs,ht⟩;·exact⟨none,0,by rw[h0],by rw[h0];exact zL _,fun hne=>absurd (List.length_eq_zero_iff.1 h0) hne⟩
 refine⟨some ⟨g,0,none⟩,cap,rfl,hc,fun _=>⟨g,0,rfl,zY hg,fun j hj k u hu=>?_⟩⟩;have b:k<32:=by have:=(Array.getElem?_eq_some_iff.1 hu).1;rw[Xaf,(ho _ (zG hj)).len] at this;exact this
 rw[Nat.zero_add,cell_of_row w g _ _ _ _ hg];have a:(cur.toList.take (l.length*32))[j*32+k]?=some u:=by rw[ht,Xf8 l j k hj ho b];unfold idA at hu;rw[List.getElem?_toArray] at hu;exact hu
 rw[List.getElem?_take,qP (by omega)] at a;simpa using a
theorem Xpi (w:World)(v:Value)(ids:List (List Nat))(hr:IRow w v ids)(hn:ids.length≤1000000)(hok:∀x∈ids,IdOk x):Calls prog 29 #[v] w fun e w'=>∃v',e=.returned v'∧IRow w' v' ids∧Bw w w':=by
 obtain⟨Y,G,I,J,K⟩:=info_parts Yl7;obtain⟨a,cap,rfl,W,r⟩:=hr;obtain⟨n,q⟩:=xq ids.length;have F:=Hd q;have R:=Hd r;have O:=Hd hok;rw[←q] at hn⊢;clear q r W hok;go_enter func29,ntmps29;go_wp2_with fail;go_loopg [3,4] n (fun k s i wr=>∃j:Nat,j≤n∧k=n-j∧i=.int .i64 (j:Int)∧Hid (wr.ownsRow w.heap.size 118 32 s j (Xa2 (ids.take j)))∧Hid (Bw w wr));exact⟨0,by omega,rfl,rfl,Hd (World.ownsRow_nil _ _ _ _),Hd (zR _ _)⟩;obtain⟨j,Z,rfl,rfl,D,l⟩:=hrel;by_cases hlt:j<n
 ·have y:j<ids.length:=by rw[←F.o];exact hlt
  obtain⟨b,off,rfl,Q,c⟩:=R.o (fun e=>by rw[e] at y;simp at y);have C:=O.o _ (zG y);have N:Hid (Ld 26 ⟨b,off+j*32,none⟩ wr (.agg (idA ids[j]))):=Hd
   (Xai wr b (off+j*32) 26 _ _ underlying26 rfl (by rw[Xaf,C.len];exact Xbh) (fun k u hu=>(l.o.cell (p:=⟨b,off+j*32+k,none⟩) Q).trans (c j y k u hu)))
  have L:Hid (prog.builtSlice 118 1 [(0,.agg (idA ids[j]))]=some (idA ids[j])):=Hd (Yj9 (ids[j].map U) (by rw[List.length_map,C.len]));have P:Hid (Xa2 (ids.take (j+1))=Xa2 (ids.take j)++(idA ids[j]).toList):=Hd (by rw[List.take_succ_eq_append_getElem y,Xp6];rfl);have g:Hid ((idA ids[j]).size=32):=Hd (by rw[Xaf,C.len]);have B:Hid (∀u∈(idA ids[j]).toList,u.oneCell'=true):=Hd (fun u hu=>(Array.all_eq_true'.1 (Xeh ids[j])) u (by simpa using hu));obtain⟨cs,m⟩:=xq (idA ids[j]);rw[←m] at N L P g B;have M:Hid (Array.foldl (fun(cs:Array Value) (x:Value×Nat)=>cs.setIfInBounds x.snd x.fst) #[Value.int .u8 0,.int .u8 0,.int .u8 0,.int .u8 0,.int .u8 0,.int .u8 0,.int .u8 0,.int .u8 0,.int .u8 0,.int .u8 0,.int .u8 0,.int .u8 0,.int .u8 0,.int .u8 0,.int .u8 0,.int .u8 0,.int .u8 0,.int .u8 0,.int .u8 0,.int .u8 0,.int .u8 0,.int .u8 0,.int .u8 0,.int .u8 0,.int .u8 0,.int .u8 0,.int .u8 0,.int .u8 0,.int .u8 0,.int .u8 0,.int .u8 0,.int .u8 0] cs.zipIdx 0 cs.size=cs):=Hd (by rw[m];exact Ymj (ids[j].map U) (by rw[List.length_map,C.len]));have E:Hid (Array.foldl (fun(cs:Array Value) (x:Value×Nat)=>cs.setIfInBounds x.snd x.fst) #[Value.int .u8 0,.int .u8 0,.int .u8 0,.int .u8 0,.int .u8 0,.int .u8 0,.int .u8 0,.int .u8 0,.int .u8 0,.int .u8 0,.int .u8 0,.int .u8 0,.int .u8 0,.int .u8 0,.int .u8 0,.int .u8 0,.int .u8 0,.int .u8 0,.int .u8 0,.int .u8 0,.int .u8 0,.int .u8 0,.int .u8 0,.int .u8 0,.int .u8 0,.int .u8 0,.int .u8 0,.int .u8 0,.int .u8 0,.int .u8 0,.int .u8 0,.int .u8 0] cs.zipIdx 0 32=cs):=Hd (by have:=M.o;rw[g.o] at this;exact this);have H:w.heap.size≤wr.heap.size:=l.o.size;have A:Hid (∀(o:Obj) (z:World),(wr.alloc o).grownBy z u3.ownBlock→Bw w z):=Hd (fun o z hg=>Below.grown (l.o.alloc H o) hg (by simp;omega) (fun k hk=>(D.o.lt k hk).1));have X:cs.size=32:=g.o;clear m c C y Q;go_wp2_with (first
   |((with_reducible refine Xab 26 rfl _ rfl ?_);refine⟨_,_,rfl,N.o,?_⟩)
   |((with_reducible refine wpList_buildSliceTo rfl 67 118 1 _ rfl wr.heap.size rfl _ rfl underlying67 cs L.o ?_))
   |(at_builtin;refine wpList_append_own _ rfl _ _ 67 rfl w.heap.size 118 Y (.agg (idA zero32)) 32 32 underlying67 G I J K rfl (by decide) _ _ _ rfl (D.o.alloc _) ⟨wr.heap.size,0,none⟩ 1 1 cs.toList rfl (by simpa using g.o) (World.news_of_block (cs:=cs) (t:=118) (fr:=(0,0)) (by(first|rw[E.o]|rw[M.o]);exact zN wr _)) B.o (by unfold maxLen;omega) (by omega) (by simp;omega) ?_;intro v' z f d _))
  have V:Hid (z.ownsRow w.heap.size 118 32 v' (j+1) (Xa2 (ids.take (j+1)))):=Hd (by rw[P.o];exact f);have S:=Hd (A.o _ z d);clear f d;go_wp2_with fail;go_roundg (n-(j+1));exact⟨j+1,by omega,rfl,by go_num,V,S⟩;omega
 obtain rfl:j=n:=by omega
 have T:Hid (IRow wr u3 ids):=Hd (by have h:=D.o;rw[List.take_of_length_le (by rw[F.o];exact zL _),F.o] at h;exact Yem O.o h);clear D;go_wp2_with fail;go_ret;exact⟨_,rfl,T.o,l.o⟩
theorem Yd6 (w:World)(v:Value)(ids:List (List Nat))(x:List Nat)(s:IRow w v ids)(hn:ids.length≤1000000)(hok:∀y∈ids,IdOk y)(hx:IdOk x):zJ 71 #[v,.agg (idA x)] w (.bool (ids.contains x)):=by
 obtain⟨w0,f⟩:=xq (w.alloc (.cells (idA x) 118));have t:Hid (Bw w w0):=Hd (by rw[f];exact(zR _ _).alloc (zL _) _);have T:Hid (IB w0 w.heap.size 118 x):=Hd (by unfold IB;rw[f];exact heap_alloc_last w _);obtain⟨a,cap,rfl,Y,r⟩:=s.below t.o;obtain⟨n,l⟩:=xq ids.length;have L:=Hd l;have R:=Hd r;have W:=Hd hok;have N:=Hd hx;rw[←l] at hn⊢;obtain⟨xs,g⟩:=xq (idA x);have U:Hid (∀q p,Ld 118 ⟨w.heap.size,0,none⟩ ((w0.drewN p).drewN q) (.agg xs)):=Hd (fun q p=>by rw[g];exact run_loadVar_row _ w.heap.size _ 118 _ _ _ (show((w0.drewN p).drewN q).heap[w.heap.size]?=_ from T.o) underlying118 rfl (by rw[Xaf,hx.len];exact Xnf));rw[←g] at f⊢;have M:=Hd f;have F:=Hd g;clear l r Y hok hx f g s;go_enter func71,ntmps71;go_upto_region 1 with fail;rw[←M.o];clear M;go_wp2_with fail;go_loopg [5] n (fun k i wr=>∃j:Nat,j≤n∧k=n-j∧i=.int .i64 (j:Int)∧Hid ((ids.take j).contains x=false)∧Hid (Dr w0 wr));exact⟨0,by omega,rfl,rfl,Hd rfl,Hd (Dr.refl _)⟩;obtain⟨j,hj,rfl,rfl,A,d⟩:=hrel;by_cases hlt:j<n
 ·have m:j<ids.length:=by rw[←L.o];exact hlt
  obtain⟨b,off,rfl,X,c⟩:=R.o (fun e=>by rw[e] at m;simp at m);have D:=W.o _ (zG m);have H:Hid (∀q,Ld 118 ⟨b,off+j*32,none⟩ (wr.drewN q) (.agg (idA ids[j]))):=Hd (fun q=>by obtain⟨p,K⟩:=d.o;rw[K];exact Xai _ b (off+j*32) 118 _ _ underlying118 rfl (by rw[Xaf,D.len];exact Xnf) (fun k u hu=>c j m k u hu));have z:Hid (∀q,Ld 118 ⟨w.heap.size,0,none⟩ (wr.drewN q) (.agg xs)):=Hd (fun q=>by obtain⟨p,K⟩:=d.o;rw[K];exact U.o q p);have B:Hid (∀w,(Op.equal 118 (.agg (idA ids[j])) (.agg xs)).run prog w=.ok (decide (ids[j]=x)) w):=Hd (fun w=>by rw[F.o];exact Xqh underlying118 (by kernel_rfl) (by kernel_rfl) w D.len D.lt N.o.len N.o.lt);have G:Hid (prog.eqGuardType prog.depth 118=false):=Hd (by kernel_rfl);have O:=List.take_succ_eq_append_getElem m;obtain⟨y,P⟩:=xq (idA ids[j]);obtain⟨r,s⟩:=xq (decide (ids[j]=x));rw[←P] at H B;rw[←s] at B;have C:=Hd s;have E:=Hd O;have S:=Hd m;clear P s D c O X;go_upto_region 4 with fail;refine wp_region_quiet_lit (by kernel_rfl) (by kernel_rfl) ?_
  quiet_step (fail)
  quiet_step (fail)
  quiet_step (fail)
  refine Xio 118 rfl _ rfl ⟨_,.agg y,rfl,?_,?_⟩;·rintro Z ⟨q,rfl⟩;exact H.o q
  refine Xio 118 rfl _ rfl ⟨_,.agg xs,rfl,?_,?_⟩;·rintro Z ⟨q,rfl⟩;exact z.o q
  refine Xq6 118 rfl _ _ rfl G.o ⟨_,_,_,rfl,rfl,B.o,?_⟩;refine wpQuiet_nil ?_;rintro _ ⟨nq,rfl⟩;clear H z B;cases r
  ·have Q:Hid ((ids.take (j+1)).contains x=false):=Hd (by
    have J:=of_decide_eq_false C.o.symm;rw[E.o,List.contains_eq_mem,decide_eq_false_iff_not,List.mem_append,List.mem_singleton];rintro(h|h);·have:=A.o;rw[List.contains_eq_mem,decide_eq_false_iff_not] at this;exact this h
    exact J h.symm)
   clear C A;go_wp2_with fail;go_roundg (n-(j+1));exact⟨j+1,by omega,rfl,by go_num,Q,Hd (Xxa d.o ⟨nq,rfl⟩)⟩;omega
  have I:Hid (ids.contains x=true):=Hd (by rw[List.contains_eq_mem,decide_eq_true_iff,←of_decide_eq_true C.o.symm];exact zG S.o);clear C A;go_wp2_with fail;go_ret;exact⟨by rw[I.o];rfl,t.o.trans ((Dr.below (Xxa d.o ⟨nq,rfl⟩)).mono t.o.size)⟩
 obtain rfl:j=n:=by omega
 have V:Hid (ids.contains x=false):=Hd (by have:=A.o;rwa [List.take_of_length_le (by rw[L.o];exact zL _)] at this);clear A;go_wp2_with fail;go_ret;exact⟨by rw[V.o];rfl,t.o.trans ((Dr.below d.o).mono t.o.size)⟩
def zQ (x:List Nat):Nat:=if x=zero32 then 1 else 0
theorem Xzm (ids:List (List Nat)):Xgi ids=if 20<ids.length then 9 else Xc6 zQ 7 [] ids:=rfl
theorem Xwr (f:List Nat→Nat)(d:Nat)(pre:List (List Nat))(x:List Nat)(r:List (List Nat)):Xc6 f d pre (x::r)=if f x≠0 then f x else if pre.contains x=true then d else Xc6 f d (pre++[x]) r:=rfl
theorem Xuv:prog.eqGuardType prog.depth 118=false:=by kernel_rfl
theorem Yog (w:World):(Instr.build 118 #[]).run prog w=.ok (.agg (idA zero32)) w:=by kernel_rfl
theorem Xpn (w:World)(v:Value)(ids:List (List Nat))(hr:IRow w v ids)(hn:ids.length≤1000000)(hok:∀y∈ids,IdOk y):zJ 28 #[v] w (.int .i64 ((Xgi ids:Nat):Int)):=by
 obtain⟨a,cap,rfl,hc,r⟩:=hr;obtain⟨n,m⟩:=xq ids.length;have O:=Hd m;have R:=Hd r;have Y:=Hd hok;have aB:n≤cap:=by rw[m];exact hc
 have P:=Hd (Xzm ids);rw[←m] at hn⊢;have M:IdOk zero32:=⟨by simp[zero32],fun x hx=>by simp[zero32] at hx;omega⟩
 have J:=Hd M;obtain⟨zs,C⟩:=xq (idA zero32);have W:Hid (∀w,(Instr.build 118 #[]).run prog w=.ok (.agg zs) w):=Hd (fun w=>by rw[C];exact Yog w);have V:=Hd C;obtain⟨D,B⟩:=xq (Xgi ids);rw[←B] at P;rw[←B];clear m r hc hok M C B;by_cases h20:20<n;·have l:Hid (D=9):=Hd (by rw[P.o,qP (by rw[←O.o];exact h20)]);go_enter func28,ntmps28;go_wp2_with fail;go_ret;exact⟨by rw[l.o];rfl,zR _ _⟩
 have l:Hid (D=Xc6 zQ 7 [] ids):=Hd (by rw[P.o,qN (by rw[←O.o];exact h20)]);have aA:¬((20:Int)<(n:Int)):=by omega
 clear P;go_enter func28,ntmps28;go_wp2_with fail;go_loopg [3] n (fun k i wr=>∃j:Nat,j≤n∧k=n-j∧i=.int .i64 (j:Int)∧Hid (D=Xc6 zQ 7 (ids.take j) (ids.drop j))∧Hid (Bw w wr));exact⟨0,by omega,rfl,rfl,l,Hd (zR _ _)⟩;clear l;obtain⟨j,hj,rfl,rfl,E,c⟩:=hrel;by_cases hlt:j<n
 ·have A:j<ids.length:=by rw[←O.o];exact hlt
  obtain⟨b,off,rfl,Q,d⟩:=R.o (fun e=>by rw[e] at A;simp at A);have L:=Y.o _ (zG A);have X:Hid (∀wx,Bw w wx→IRow wx (.slice (some ⟨b,off,none⟩) j cap) (ids.take j)):=Hd (fun wx hx=>by refine⟨some ⟨b,off,none⟩,cap,by rw[List.length_take,Nat.min_eq_left (by omega)],by rw[List.length_take];omega,fun _=>⟨b,off,rfl,Nat.lt_of_lt_of_le Q hx.size,fun q F k u hu=>?_⟩⟩;rw[List.length_take] at F;rw[List.getElem_take] at hu;exact(hx.cell (p:=⟨b,off+q*32+k,none⟩) Q).trans (d q (by omega) k u hu));have H:Hid (∀wx,Bw w wx→Ld 118 ⟨b,off+j*32,none⟩ wx (.agg (idA ids[j]))):=Hd (fun wx hx=>
   Xai wx b (off+j*32) 118 _ _ underlying118 rfl (by rw[Xaf,L.len];exact Xnf) (fun k u hu=>(hx.cell (p:=⟨b,off+j*32+k,none⟩) Q).trans (d j A k u hu)))
  have G:Hid (∀w,(Op.equal 118 (.agg (idA ids[j])) (.agg zs)).run prog w=.ok (decide (ids[j]=zero32)) w):=Hd (fun w=>by rw[V.o];exact Xqh underlying118 (by kernel_rfl) (by kernel_rfl) w L.len L.lt J.o.len J.o.lt);have h:Hid (∀wx,Bw w wx→zJ 71 #[.slice (some ⟨b,off,none⟩) j cap,.agg (idA ids[j])] wx (.bool ((ids.take j).contains ids[j]))):=Hd (fun wx hx=>
   Yd6 wx _ (ids.take j) ids[j] (X.o wx hx) (by rw[List.length_take];omega) (fun y T=>Y.o y (List.mem_of_mem_take T)) L)
  have I:=Xwr zQ 7 (ids.take j) ids[j] (ids.drop (j+1));rw[←List.drop_eq_getElem_cons A,←List.take_succ_eq_append_getElem A,←E.o] at I;obtain⟨y,T⟩:=xq (idA ids[j]);obtain⟨q,F⟩:=xq (decide (ids[j]=zero32));obtain⟨s,hs⟩:=xq ((ids.take j).contains ids[j]);rw[←T] at H G h;rw[←F] at G;rw[←hs] at h I;have Z:zQ ids[j]=if q=true then 1 else 0:=by
   unfold zQ;by_cases e:ids[j]=zero32;·rw[qP e,qP (by rw[F];exact zT e)]
   rw[qN e,qN (by rw[F,zW e];decide)]
  rw[Z] at I;have g:=Hd I;have jc:j≤cap:=by omega
  have z:=Hd (H.o wr c.o);clear T F hs L d A Q I Z X;cases q
  ·go_upto_region 8 with(first
      |((with_reducible refine Xab 118 rfl _ rfl ?_);refine⟨_,_,rfl,z.o,?_⟩)
      |((with_reducible refine Xah 118 rfl rfl ?_);refine⟨_,W.o _,?_⟩)
      |((with_reducible refine Xc8 118 rfl _ _ rfl Xuv ?_);refine⟨_,_,_,rfl,rfl,G.o _,?_⟩))
   refine wp_region_held (S:=fun wx=>Bw w wx) (by kernel_rfl) ?_;change wpAnyH _ _ _ _ _ _ _ _ wr.drew;have t:(fun wx:World=>Bw w wx) wr.drew:=c.o.drew;refine Xae 0 (.slice (some ⟨b,off,none⟩) n cap) rfl (fun _ _=>by go_simp) t ?_;refine Xae 1 (.int .i64 (j:Int)) rfl (fun _ _=>by go_simp) t ?_;refine Xae 2 (.slice (some ⟨b,off,none⟩) j cap) rfl (fun _ _=>by go_simp) t ?_;refine Xae 3 (.slice (some ⟨b,off,none⟩) n cap) rfl (fun _ _=>by go_simp) t ?_;refine Xae 4 (.int .i64 (j:Int)) rfl (fun _ _=>by go_simp) t ?_;refine Xae 5 (.pointer (some ⟨b,off+j*32,none⟩)) rfl (fun _ _=>by go_simp) t ?_;refine Xae 6 (.agg y) rfl (fun w' hw'=>Xaj (ty:=118) (x:=.tmp 24) (ad:=⟨b,off+j*32,none⟩) rfl (by kernel_rfl) (H.o w' hw')) t ?_;refine Xag (i:=7) (by kernel_rfl) ?_;refine Xao (f:=71) (args:=#[.slice (some ⟨b,off,none⟩) j cap,.agg y]) rfl rfl (by kernel_rfl) ?_;refine(h.o wr.drew c.o.drew).mono ?_;rintro e y1 ⟨rfl,K⟩;have U:=Hd (c.o.drew.trans (K.mono c.o.drew.size));refine⟨_,rfl,U.o,?_⟩;refine wpAnyH_done (by kernel_rfl) ?_ _;clear t K H z G h c;cases s;·have N:Hid (D=Xc6 zQ 7 (ids.take (j+1)) (ids.drop (j+1))):=Hd (by have:=g.o;rw[qN (by decide),qN (by decide)] at this;exact this);clear E g;go_simp;refine‹∀(a:Act) (w_1:World),_→_› _ _ ?_;go_wp2_with fail;go_roundg (n-(j+1));exact⟨j+1,by omega,rfl,by go_num,N,U⟩;omega
   have N:Hid (D=7):=Hd (by have:=g.o;rw[qN (by decide),qP rfl] at this;exact this);clear E g;go_simp;refine‹∀(a:Act) (w_1:World),_→_› _ _ ?_;go_wp2_with fail;go_ret;exact⟨by rw[N.o];rfl,U.o⟩
  have N:Hid (D=1):=Hd (by have:=g.o;rw[qP (by decide)] at this;exact this);clear E g h H;go_wp2_with (first
   |((with_reducible refine Xab 118 rfl _ rfl ?_);refine⟨_,_,rfl,z.o,?_⟩)
   |((with_reducible refine Xah 118 rfl rfl ?_);refine⟨_,W.o _,?_⟩)
   |((with_reducible refine Xc8 118 rfl _ _ rfl Xuv ?_);refine⟨_,_,_,rfl,rfl,G.o _,?_⟩))
  go_ret;exact⟨by rw[N.o];rfl,c.o⟩
 obtain rfl:j=n:=by omega
 have N:Hid (D=0):=Hd (by rw[E.o,List.drop_of_length_le (by rw[O.o];exact zL _)];rfl);clear E;go_wp2_with fail;go_ret;exact⟨by rw[N.o];rfl,c.o⟩
theorem Yin (w:World)(v:Value)(ids:List (List Nat))(hr:IRow w v ids)(hn:ids.length≤1000)(hok:∀y∈ids,IdOk y)(h0:Xgi ids=0):zJ 54 #[v] w (.tuple #[.string (Xcs 32 (Xg9 ids)),.int .i64 0]):=by
 have G:=Hd (Xpn w v ids hr (by omega) hok);rw[h0] at G;obtain⟨a,cap,rfl,Q,r⟩:=hr;obtain⟨n,z⟩:=xq ids.length;have M:=Hd z;have R:=Hd r;have O:=Hd hok;rw[←z] at hn G⊢;have X:Hid (∀g∈Xg9 ids,g.size=71):=Hd (fun g hg=>by obtain⟨x,S,rfl⟩:=List.mem_map.1 hg;rw[Xat,Xhg (hok x S)]);clear z r Q hok h0;go_enter func54,ntmps54;go_wp2_with fail;refine G.o.mono ?_;rintro e w1 ⟨rfl,D⟩;have L:=Hd D;clear D G;have hz:((((0:Nat):Int)) !=0)=false:=rfl;go_wp2_with fail;go_loopg [5,6] n (fun k s i wr=>∃(j:Nat) (t:ByteArray),j≤n∧k=n-j∧i=.int .i64 (j:Int)∧s=.string t∧Hid (t=Xcs 32 ((Xg9 ids).take j))∧t.size≤72*j∧Hid (Bw w wr));exact⟨0,⟨#[]⟩,by omega,rfl,rfl,rfl,Hd rfl,zL _,L⟩;clear L;obtain⟨j,t,Y,rfl,rfl,rfl,B,zt,f⟩:=hrel;by_cases hlt:j<n
 ·have m:j<ids.length:=by rw[←M.o];exact hlt
  have q:j<(Xg9 ids).length:=by unfold Xg9;rw[List.length_map];exact m
  obtain⟨b,off,rfl,J,c⟩:=R.o (fun e=>by rw[e] at m;simp at m);have F:=O.o _ (zG m);have A:Hid (Ld 118 ⟨b,off+j*32,none⟩ wr (.agg (idA ids[j]))):=Hd
   (Xai wr b (off+j*32) 118 _ _ underlying118 rfl (by rw[Xaf,F.len];exact Xnf) (fun k u hu=>(f.o.cell (p:=⟨b,off+j*32+k,none⟩) J).trans (c j m k u hu)))
  have TX:=Hd (Xy4 wr F);have h:=Xmm 32 ((Xg9 ids).take j) (Xg9 ids)[j];rw[←List.take_succ_eq_append_getElem q,←B.o] at h;have I:(Xg9 ids)[j]=Xax (Xfi ids[j]):=by simp[Xg9]
  rw[I] at h;have V:(Xax (Xfi ids[j])).size=71:=by rw[Xat,Xhg F]
  obtain⟨g,l⟩:=xq (Xax (Xfi ids[j]));obtain⟨y,K⟩:=xq (idA ids[j]);rw[←l] at TX h V;rw[←K] at A TX;by_cases h0:j=0
  ·subst h0;have C:Hid (Ld 118 ⟨b,off,none⟩ wr (.agg y)):=Hd (by have:=A.o;simpa using this);have N:Hid (t++g=Xcs 32 ((Xg9 ids).take (0+1))):=Hd (by rw[h,qP (by simp),B.o];apply ByteArray.ext;simp[Xcs,Xa9,Xax]);have W:(t++g).size≤72*(0+1):=by rw[ByteArray.size_append];omega
   clear h I l K c m q F J B;go_wp2_with ((with_reducible refine Xab 118 rfl _ rfl ?_);first|(refine⟨_,_,rfl,C.o,?_⟩)|(refine⟨_,_,rfl,A.o,?_⟩))
   refine TX.o.mono ?_;rintro e T ⟨rfl,d⟩;have H:=bh f d;clear d TX A C;go_wp2_with fail;go_roundg (n-(0+1));exact⟨1,t++g,by omega,rfl,by go_num,rfl,N,W,H⟩;omega
  have E:(Xg9 ids).take j≠[]:=fun e=>by
   have P:((Xg9 ids).take j).length=0:=by rw[e];rfl
   rw[List.length_take] at P;omega
  rw[qN E] at h;have N:Hid (t++(⟨#[32]⟩:ByteArray)++g=Xcs 32 ((Xg9 ids).take (j+1))):=Hd h.symm;have z1:(t++(⟨#[32]⟩:ByteArray)).size≤72*j+1:=by rw[ByteArray.size_append];show t.size+1≤_;omega
  have U:(t++(⟨#[32]⟩:ByteArray)++g).size≤72*(j+1):=by rw[ByteArray.size_append];omega
  have Z:(0:Int)<(j:Int):=by omega
  clear h I l K c m q F J B E;go_wp2_with ((with_reducible refine Xab 118 rfl _ rfl ?_);refine⟨_,_,rfl,A.o,?_⟩)
  refine TX.o.mono ?_;rintro e T ⟨rfl,d⟩;have H:=bh f d;clear d TX A;go_wp2_with fail;go_roundg (n-(j+1));exact⟨j+1,_,by omega,rfl,by go_num,rfl,N,U,H⟩;omega
 obtain rfl:j=n:=by omega
 have N:Hid (t=Xcs 32 (Xg9 ids)):=Hd (by rw[B.o,List.take_of_length_le (by unfold Xg9;rw[List.length_map,M.o];exact zL _)]);clear B;go_wp2_with fail;go_ret2;exact⟨by rw[←N.o];rfl,f.o⟩
end Go.Proofs.YtjolcnopipbkhaaGreatDoor
