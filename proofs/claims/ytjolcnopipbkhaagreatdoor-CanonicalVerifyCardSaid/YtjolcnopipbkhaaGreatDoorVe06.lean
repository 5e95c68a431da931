/- The commands' forms (printed by gen_form.py). -/
import Derived.Test.YtjolcnopipbkhaaGreatDoorVe05
import Derived.DeepKeys3
import Derived.Great.Walk
import Derived.Laws.IdiomRangeMap
namespace Go.Proofs.YtjolcnopipbkhaaGreatDoor
open Go.Proofs.Tryz
open Go.RowKit Go.Maps
set_option linter.unusedVariables false
set_option maxHeartbeats 100000000
set_option maxRecDepth 100000
theorem Xsi {P:Program}{o:Oper}{a:Act}{w:World}{v:Value}{t:TypeId}{i:Nat}{x:Operand}{vx:Value}(ho:o.op=.build t #[(i,x)])(hx:a.eval x=vx)(h:(Instr.build t #[(i,vx)]).run P w=.ok v w):(execOp a.eval o).run P w=.ok (.value v) w:=Xdd ho (by subst hx;simpa using h)
theorem Xdo {P:Program}{ops:Array Oper}{rest:List Oper}{o:Oper}{a:Act}{w:World}{Q:Exit→Act→World→Prop}(t:TypeId)(hgd:o.guard=none){i:Nat}(x:Operand)(ho:o.op=.build t #[(i,x)])(h:∃b v,a.eval x=b∧(Instr.build t #[(i,b)]).run P w=.ok v w∧wpList P ops Q rest (a.put o.dst v) w):wpList P ops Q (o::rest) a w:=by obtain⟨b,v,c,d,e⟩:=h;exact Xaz hgd (Xsi ho c d) e
theorem Ybb (w:World)(b:Nat)(t:ByteArray)(st en:Nat)(at_:Int)(er:Nat)(h:WS w b t st en at_ er)(hE:Env w)(hb9:9≤b)(ht2:t.size≤1000000):Calls prog 192 #[.pointer (some ⟨b,0,none⟩)] w (Xcw w b t en er (fun T=>nxt T fun x T=>fe (Xhx x) ((fun T=>nxt T fun x T=>fe (Xih x) (fin T)) T))):=by
 have ht:t.size≤1000000:=by omega
 obtain⟨g,m⟩:=xq (Xlx 0 Xhw);obtain⟨n,u⟩:=xq (Xlx 2 Xhw);have Z:Hid (Cl 56 g):=Hd (by rw[m];exact Xd1 0 _ (by simp[Xhw]) Xek);have i:Hid (Cl 56 n):=Hd (by rw[u];exact Xd1 2 _ (by simp[Xhw]) Xek);have BK:Hid (∀w,(Instr.build 139 #[(0,.int .i64 2)]).run prog w=.ok (.agg n) w):=Hd (fun w=>by rw[u];exact Xgd w 2);have N:=h.lt;have s:Hid (∀zz:Array Value,zz.size=56→Sv 139 ⟨w.heap.size+1,0,none⟩ (.agg n) ((w.alloc (.cells g 139)).alloc (.cells zz 139)) ((w.alloc (.cells g 139)).alloc (.cells n 139))):=Hd (fun zz hz=>by have:=run_storeVar_new (P:=prog) (w.alloc (.cells g 139)) 139 zz n (by rw[i.o.1];exact Xa3) (by rw[hz,i.o.1]) i.o.2;rwa [World.size_alloc] at this);obtain⟨w0,f⟩:=xq ((w.alloc (.cells g 139)).alloc (.cells n 139));have bA:Bw w (w.alloc (.cells g 139)):=(zR _ w).alloc (zL _) _;have Q:Bw w w0:=by rw[f];exact bA.alloc bA.size _
 have h0:=h.below Q;have E0:=hE.on Q;have F0:Hid (Fr1 b w w0):=Hd (Fr1.of_below Q);have Z0:Hid (w0.heap[w.heap.size]?=some (.cells g 139 (0,0))):=Hd (by rw[f];exact(((zR _ (w.alloc (.cells g 139))).alloc (zL _) _).block w.heap.size (by simp)).trans (zN w _));have O:MB w0 (w.heap.size+1):=⟨n,by rw[f];have:=zN (w.alloc (.cells g 139)) (.cells n 139);rwa [World.size_alloc] at this,i.o⟩
 have M0:=Hd O;rw[m] at s;have HW:Hid (w0=(w.alloc (.cells (Xlx 0 Xhw) 139)).alloc (.cells n 139)):=Hd (by rw[f,m]);have H0:=Hd h0;have D:=Hd E0;have C:=Hd hb9;have HT:=Hd ht;clear h hE m u f bA Q h0 E0 O;have C1:=Hd (Xl3 w0 b t st en at_ er H0.o D.o hb9 ht);go_enter func192,ntmps192;go_wp2_with (first
  |((with_reducible refine Xdo 139 rfl _ rfl ?_);refine⟨_,_,rfl,BK.o _,?_⟩)
  |((with_reducible refine Xaa 139 rfl _ _ rfl ?_);refine⟨_,_,_,rfl,rfl,s.o _ rfl,?_⟩))
 have B:Hid (∀wq,w0=wq→Calls prog 191 #[.pointer (some ⟨b,0,none⟩)] wq (Xlz w0 b t en er Xhx fun v=>∃cs,v=.agg cs∧Cl 32 cs)):=Hd (by rintro wq rfl;exact C1.o);refine(B.o _ HW.o).mono ?_;clear C1 B HW s BK;rintro e v1 ⟨v,aF,aB,a1,aD,rfl,⟨aA,rfl,p⟩,h1,L,q⟩;have Y:=Hd (M0.o.fr L (by omega));have J:=Hd ((L.other w.heap.size (zY Z0.o) (by omega)).trans Z0.o);have V:=Hd (F0.o.trans L);have S:=Hd (Xbv D.o hb9 L);have F:=Hd q;obtain⟨k,y,c⟩:=Y.o.store 1 32 (by omega) 26 p Xbh;obtain⟨y1,z⟩:=xq (v1.setCells (w.heap.size+1) 1 aA.toList);rw[←z] at k y c;have k:=Hd k;have M1:=Hd y;have H1:=Hd (h1.fr c (by omega));have F1:=Hd (V.o.new c (by omega));have Z1:=Hd ((c.other w.heap.size (zY J.o) (by omega)).trans J.o);have E:=Hd (Xbv S.o (by have:=C.o;have:=N;omega) c);have aJ:=Hd z;clear h1 L q c z y p;have C2:=Hd (Xky y1 b t aF aB a1 aD H1.o E.o hb9 ht);go_wp2_with ((with_reducible refine Xaa 26 rfl _ _ rfl ?_);refine⟨_,_,_,rfl,rfl,k.o,?_⟩)
 refine C2.o.mono ?_;rintro e v2 ⟨v,aG,aC,a2,aE,rfl,⟨s2,rfl,aH⟩,h2,M,r⟩;have H:=Hd (M1.o.fr M (by omega));have K:=Hd ((M.other w.heap.size (zY Z1.o) (by omega)).trans Z1.o);have W:=Hd (F1.o.trans M);have U:=Hd (Xbv E.o hb9 M);have G:=Hd r;obtain⟨u2,aK,aL⟩:=H.o.cell (j:=33) (by omega);obtain⟨A,l⟩:=xq (v2.setCell ⟨w.heap.size+1,33,none⟩ (.string s2));have M2:Hid (MB A (w.heap.size+1)):=Hd (by rw[l];exact H.o.setCell 33 rfl);have d:Fr1 (w.heap.size+1) v2 A:=by rw[l];exact Fr1.setC _
 have H2:=Hd (h2.fr d (by omega));have F2:=Hd (W.o.new d (by omega));have Z2:=Hd ((d.other w.heap.size (zY K.o) (by omega)).trans K.o);have aI:=Hd (Xbv U.o (by have:=C.o;have:=N;omega) d);have X:=Hd l;clear h2 M r d l;obtain⟨cs,hp,a⟩:=M2.o;have LD:=Hd (Xap A (w.heap.size+1) 56 _ _ cs _ _ hp rfl underlying139 Xa3 a.1);have ST:=Hd (run_storeVar_row (P:=prog) A w.heap.size _ 139 g cs Z2.o (by rw[a.1];exact Xa3) (by rw[a.1,Z.o.1]) a.2);have W2:=Hd (setRow_heap A w.heap.size g cs _ _ Z2.o);have R:Hid (cs.size=56):=Hd a.1;have I:Hid (Xcw w b t en er (fun T=>nxt T fun x T=>fe (Xhx x) ((fun T=>nxt T fun x T=>fe (Xih x) (fin T)) T)) (.returned (.agg cs)) (A.setRow w.heap.size cs)):=Hd ⟨cs,aG,aC,a2,aE,rfl,a,H2.o.row (by omega) cs,F2.o.row (zL _) cs,((F.o (fun T=>nxt T fun x T=>fe (Xih x) (fin T))).trans (G.o fin)).symm⟩;clear hp a;go_upto_region 4 with fail;rw[←X.o];refine wp_region_list ?_;simp only[];refine Xab 139 rfl _ rfl ⟨_,_,rfl,LD.o,?_⟩;go_wp2_with ((with_reducible refine Xaa 139 rfl _ _ rfl ?_);refine⟨_,_,_,rfl,rfl,ST.o,?_⟩)
 exact zP (results_cell_row results192 _ _ w.heap.size _ _ _ _ rfl W2.o underlying139 rfl (by rw[R.o];exact Xa3)) rfl I.o
theorem Ya9 (w:World)(b:Nat)(t:ByteArray)(st en:Nat)(at_:Int)(er:Nat)(h:WS w b t st en at_ er)(hE:Env w)(hb9:9≤b)(ht2:t.size≤1000000):Calls prog 198 #[.pointer (some ⟨b,0,none⟩)] w (Xcw w b t en er (fun T=>nxt T fun x T=>fe (Xih x) ((fun T=>nxt T fun x T=>fe ((Xfe 0 1000000) x) (fin T)) T))):=by
 have ht:t.size≤1000000:=by omega
 obtain⟨g,m⟩:=xq (Xlx 0 Xhw);obtain⟨n,u⟩:=xq (Xlx 4 Xhw);have Y:Hid (Cl 56 g):=Hd (by rw[m];exact Xd1 0 _ (by simp[Xhw]) Xek);have i:Hid (Cl 56 n):=Hd (by rw[u];exact Xd1 4 _ (by simp[Xhw]) Xek);have BK:Hid (∀w,(Instr.build 139 #[(0,.int .i64 4)]).run prog w=.ok (.agg n) w):=Hd (fun w=>by rw[u];exact Xgd w 4);have M:=h.lt;have r:Hid (∀zz:Array Value,zz.size=56→Sv 139 ⟨w.heap.size+1,0,none⟩ (.agg n) ((w.alloc (.cells g 139)).alloc (.cells zz 139)) ((w.alloc (.cells g 139)).alloc (.cells n 139))):=Hd (fun zz hz=>by have:=run_storeVar_new (P:=prog) (w.alloc (.cells g 139)) 139 zz n (by rw[i.o.1];exact Xa3) (by rw[hz,i.o.1]) i.o.2;rwa [World.size_alloc] at this);obtain⟨w0,f⟩:=xq ((w.alloc (.cells g 139)).alloc (.cells n 139));have Z:Bw w (w.alloc (.cells g 139)):=(zR _ w).alloc (zL _) _;have O:Bw w w0:=by rw[f];exact Z.alloc Z.size _
 have h0:=h.below O;have E0:=hE.on O;have F0:Hid (Fr1 b w w0):=Hd (Fr1.of_below O);have Z0:Hid (w0.heap[w.heap.size]?=some (.cells g 139 (0,0))):=Hd (by rw[f];exact(((zR _ (w.alloc (.cells g 139))).alloc (zL _) _).block w.heap.size (by simp)).trans (zN w _));have N:MB w0 (w.heap.size+1):=⟨n,by rw[f];have:=zN (w.alloc (.cells g 139)) (.cells n 139);rwa [World.size_alloc] at this,i.o⟩
 have M0:=Hd N;rw[m] at r;have HW:Hid (w0=(w.alloc (.cells (Xlx 0 Xhw) 139)).alloc (.cells n 139)):=Hd (by rw[f,m]);have H0:=Hd h0;have B:=Hd E0;have A:=Hd hb9;have HT:=Hd ht;clear h hE m u f Z O h0 E0 N;have C1:=Hd (Xky w0 b t st en at_ er H0.o B.o hb9 ht);go_enter func198,ntmps198;go_wp2_with (first
  |((with_reducible refine Xdo 139 rfl _ rfl ?_);refine⟨_,_,rfl,BK.o _,?_⟩)
  |((with_reducible refine Xaa 139 rfl _ _ rfl ?_);refine⟨_,_,_,rfl,rfl,r.o _ rfl,?_⟩))
 have z:Hid (∀wq,w0=wq→Calls prog 193 #[.pointer (some ⟨b,0,none⟩)] wq (Xlz w0 b t en er Xih fun v=>∃s,v=.string s∧s.size≤t.size)):=Hd (by rintro wq rfl;exact C1.o);refine(z.o _ HW.o).mono ?_;clear C1 z HW r BK;rintro e v1 ⟨v,aE,aA,a1,aC,rfl,⟨s1,rfl,aG⟩,h1,K,p⟩;have F:=Hd (M0.o.fr K (by omega));have I:=Hd ((K.other w.heap.size (zY Z0.o) (by omega)).trans Z0.o);have U:=Hd (F0.o.trans K);have R:=Hd (Xbv B.o hb9 K);have D:=Hd p;obtain⟨u1,aI,aK⟩:=F.o.cell (j:=33) (by omega);obtain⟨y1,k⟩:=xq (v1.setCell ⟨w.heap.size+1,33,none⟩ (.string s1));have M1:Hid (MB y1 (w.heap.size+1)):=Hd (by rw[k];exact F.o.setCell 33 rfl);have c:Fr1 (w.heap.size+1) v1 y1:=by rw[k];exact Fr1.setC _
 have H1:=Hd (h1.fr c (by omega));have F1:=Hd (U.o.new c (by omega));have Z1:=Hd ((c.other w.heap.size (zY I.o) (by omega)).trans I.o);have C:=Hd (Xbv R.o (by have:=A.o;have:=M;omega) c);have W:=Hd k;clear h1 K p c k;have C2:=Hd (Xia y1 b t aE aA a1 aC H1.o C.o hb9 ht 0 1000000 (by omega) (by omega));go_wp2_with fail;rw[←W.o];refine C2.o.mono ?_;rintro e v2 ⟨v,aF,aB,a2,aD,rfl,⟨n2,rfl⟩,h2,L,q⟩;have G:=Hd (M1.o.fr L (by omega));have J:=Hd ((L.other w.heap.size (zY Z1.o) (by omega)).trans Z1.o);have V:=Hd (F1.o.trans L);have S:=Hd (Xbv C.o hb9 L);have E:=Hd q;obtain⟨u2,aJ,aL⟩:=G.o.cell (j:=34) (by omega);obtain⟨y,l⟩:=xq (v2.setCell ⟨w.heap.size+1,34,none⟩ (.int .i64 n2));have M2:Hid (MB y (w.heap.size+1)):=Hd (by rw[l];exact G.o.setCell 34 rfl);have d:Fr1 (w.heap.size+1) v2 y:=by rw[l];exact Fr1.setC _
 have H2:=Hd (h2.fr d (by omega));have F2:=Hd (V.o.new d (by omega));have Z2:=Hd ((d.other w.heap.size (zY J.o) (by omega)).trans J.o);have aH:=Hd (Xbv S.o (by have:=A.o;have:=M;omega) d);have X:=Hd l;clear h2 L q d l;obtain⟨cs,hp,a⟩:=M2.o;have LD:=Hd (Xap y (w.heap.size+1) 56 _ _ cs _ _ hp rfl underlying139 Xa3 a.1);have ST:=Hd (run_storeVar_row (P:=prog) y w.heap.size _ 139 g cs Z2.o (by rw[a.1];exact Xa3) (by rw[a.1,Y.o.1]) a.2);have W2:=Hd (setRow_heap y w.heap.size g cs _ _ Z2.o);have Q:Hid (cs.size=56):=Hd a.1;have H:Hid (Xcw w b t en er (fun T=>nxt T fun x T=>fe (Xih x) ((fun T=>nxt T fun x T=>fe ((Xfe 0 1000000) x) (fin T)) T)) (.returned (.agg cs)) (y.setRow w.heap.size cs)):=Hd ⟨cs,aF,aB,a2,aD,rfl,a,H2.o.row (by omega) cs,F2.o.row (zL _) cs,((D.o (fun T=>nxt T fun x T=>fe ((Xfe 0 1000000) x) (fin T))).trans (E.o fin)).symm⟩;clear hp a;go_upto_region 4 with fail;rw[←X.o];refine wp_region_list ?_;simp only[];refine Xab 139 rfl _ rfl ⟨_,_,rfl,LD.o,?_⟩;go_wp2_with ((with_reducible refine Xaa 139 rfl _ _ rfl ?_);refine⟨_,_,_,rfl,rfl,ST.o,?_⟩)
 exact zP (results_cell_row results198 _ _ w.heap.size _ _ _ _ rfl W2.o underlying139 rfl (by rw[Q.o];exact Xa3)) rfl H.o
theorem Ya8 (w:World)(b:Nat)(t:ByteArray)(st en:Nat)(at_:Int)(er:Nat)(h:WS w b t st en at_ er)(hE:Env w)(hb9:9≤b)(ht2:t.size≤1000000):Calls prog 199 #[.pointer (some ⟨b,0,none⟩)] w (Xcw w b t en er (fun T=>nxt T fun x T=>fe ((Xfe 1 1000) x) ((fun T=>nxt T fun x T=>fe (Xhf x) (fin T)) T))):=by
 have ht:t.size≤1000000:=by omega
 obtain⟨g,m⟩:=xq (Xlx 0 Xhw);obtain⟨p,y⟩:=xq (Xlx 5 Xhw);have aA:Hid (Cl 56 g):=Hd (by rw[m];exact Xd1 0 _ (by simp[Xhw]) Xek);have i:Hid (Cl 56 p):=Hd (by rw[y];exact Xd1 5 _ (by simp[Xhw]) Xek);have BK:Hid (∀w,(Instr.build 139 #[(0,.int .i64 5)]).run prog w=.ok (.agg p) w):=Hd (fun w=>by rw[y];exact Xgd w 5);have N:=h.lt;have u:Hid (∀zz:Array Value,zz.size=56→Sv 139 ⟨w.heap.size+1,0,none⟩ (.agg p) ((w.alloc (.cells g 139)).alloc (.cells zz 139)) ((w.alloc (.cells g 139)).alloc (.cells p 139))):=Hd (fun zz hz=>by have:=run_storeVar_new (P:=prog) (w.alloc (.cells g 139)) 139 zz p (by rw[i.o.1];exact Xa3) (by rw[hz,i.o.1]) i.o.2;rwa [World.size_alloc] at this);obtain⟨w0,f⟩:=xq ((w.alloc (.cells g 139)).alloc (.cells p 139));have bA:Bw w (w.alloc (.cells g 139)):=(zR _ w).alloc (zL _) _;have Q:Bw w w0:=by rw[f];exact bA.alloc bA.size _
 have h0:=h.below Q;have E0:=hE.on Q;have F0:Hid (Fr1 b w w0):=Hd (Fr1.of_below Q);have Z0:Hid (w0.heap[w.heap.size]?=some (.cells g 139 (0,0))):=Hd (by rw[f];exact(((zR _ (w.alloc (.cells g 139))).alloc (zL _) _).block w.heap.size (by simp)).trans (zN w _));have O:MB w0 (w.heap.size+1):=⟨p,by rw[f];have:=zN (w.alloc (.cells g 139)) (.cells p 139);rwa [World.size_alloc] at this,i.o⟩
 have M0:=Hd O;rw[m] at u;have HW:Hid (w0=(w.alloc (.cells (Xlx 0 Xhw) 139)).alloc (.cells p 139)):=Hd (by rw[f,m]);have H0:=Hd h0;have D:=Hd E0;have C:=Hd hb9;have HT:=Hd ht;clear h hE m y f bA Q h0 E0 O;have C1:=Hd (Xia w0 b t st en at_ er H0.o D.o hb9 ht 1 1000 (by omega) (by omega));go_enter func199,ntmps199;go_wp2_with (first
  |((with_reducible refine Xdo 139 rfl _ rfl ?_);refine⟨_,_,rfl,BK.o _,?_⟩)
  |((with_reducible refine Xaa 139 rfl _ _ rfl ?_);refine⟨_,_,_,rfl,rfl,u.o _ rfl,?_⟩))
 have B:Hid (∀wq,w0=wq→Calls prog 195 #[.pointer (some ⟨b,0,none⟩),.int .i64 ((1:Nat):Int),.int .i64 ((1000:Nat):Int)] wq (Xlz w0 b t en er (Xfe 1 1000) fun v=>∃n:Int,v=.int .i64 n)):=Hd (by rintro wq rfl;exact C1.o);refine(B.o _ HW.o).mono ?_;clear C1 B HW u BK;rintro e v1 ⟨v,aG,aC,a1,aE,rfl,⟨n1,rfl⟩,h1,L,r⟩;have H:=Hd (M0.o.fr L (by omega));have J:=Hd ((L.other w.heap.size (zY Z0.o) (by omega)).trans Z0.o);have W:=Hd (F0.o.trans L);have U:=Hd (Xbv D.o hb9 L);have F:=Hd r;obtain⟨u1,aK,aL⟩:=H.o.cell (j:=38) (by omega);obtain⟨y1,l⟩:=xq (v1.setCell ⟨w.heap.size+1,38,none⟩ (.int .i64 n1));have M1:Hid (MB y1 (w.heap.size+1)):=Hd (by rw[l];exact H.o.setCell 38 rfl);have d:Fr1 (w.heap.size+1) v1 y1:=by rw[l];exact Fr1.setC _
 have H1:=Hd (h1.fr d (by omega));have F1:=Hd (W.o.new d (by omega));have Z1:=Hd ((d.other w.heap.size (zY J.o) (by omega)).trans J.o);have E:=Hd (Xbv U.o (by have:=C.o;have:=N;omega) d);have Y:=Hd l;clear h1 L r d l;have C2:=Hd (Xwf y1 b t aG aC a1 aE H1.o E.o hb9 ht);go_wp2_with fail;rw[←Y.o];refine C2.o.mono ?_;rintro e v2 ⟨v,aH,aD,a2,aF,rfl,⟨aB,rfl,q⟩,h2,M,s⟩;have Z:=Hd (M1.o.fr M (by omega));have K:=Hd ((M.other w.heap.size (zY Z1.o) (by omega)).trans Z1.o);have X:=Hd (F1.o.trans M);have V:=Hd (Xbv E.o hb9 M);have G:=Hd s;obtain⟨k,z,c⟩:=Z.o.store 39 17 (by omega) 37 q Xda;obtain⟨R,A⟩:=xq (v2.setCells (w.heap.size+1) 39 aB.toList);rw[←A] at k z c;have k:=Hd k;have M2:=Hd z;have H2:=Hd (h2.fr c (by omega));have F2:=Hd (X.o.new c (by omega));have Z2:=Hd ((c.other w.heap.size (zY K.o) (by omega)).trans K.o);have aI:=Hd (Xbv V.o (by have:=C.o;have:=N;omega) c);have aJ:=Hd A;clear h2 M s c A z q;obtain⟨cs,hp,a⟩:=M2.o;have LD:=Hd (Xap R (w.heap.size+1) 56 _ _ cs _ _ hp rfl underlying139 Xa3 a.1);have ST:=Hd (run_storeVar_row (P:=prog) R w.heap.size _ 139 g cs Z2.o (by rw[a.1];exact Xa3) (by rw[a.1,aA.o.1]) a.2);have W2:=Hd (setRow_heap R w.heap.size g cs _ _ Z2.o);have S:Hid (cs.size=56):=Hd a.1;have I:Hid (Xcw w b t en er (fun T=>nxt T fun x T=>fe ((Xfe 1 1000) x) ((fun T=>nxt T fun x T=>fe (Xhf x) (fin T)) T)) (.returned (.agg cs)) (R.setRow w.heap.size cs)):=Hd ⟨cs,aH,aD,a2,aF,rfl,a,H2.o.row (by omega) cs,F2.o.row (zL _) cs,((F.o (fun T=>nxt T fun x T=>fe (Xhf x) (fin T))).trans (G.o fin)).symm⟩;clear hp a;go_upto_region 4 with((with_reducible refine Xaa 37 rfl _ _ rfl ?_);refine⟨_,_,_,rfl,rfl,k.o,?_⟩)
 refine wp_region_list ?_;simp only[];refine Xab 139 rfl _ rfl ⟨_,_,rfl,LD.o,?_⟩;go_wp2_with ((with_reducible refine Xaa 139 rfl _ _ rfl ?_);refine⟨_,_,_,rfl,rfl,ST.o,?_⟩)
 exact zP (results_cell_row results199 _ _ w.heap.size _ _ _ _ rfl W2.o underlying139 rfl (by rw[S.o];exact Xa3)) rfl I.o
theorem Yn0 (w:World):Ry 189 #[.int .i64 1] w (.string ⟨#[99,97,110,99,101,108]⟩):=by go_enter func189,ntmps189;go_wp2_with fail;go_ret;exact⟨rfl,rfl⟩
theorem Ynz (w:World):Ry 189 #[.int .i64 2] w (.string ⟨#[97,112,112,114,111,118,101]⟩):=by go_enter func189,ntmps189;go_wp2_with fail;go_ret;exact⟨rfl,rfl⟩
theorem Yny (w:World):Ry 189 #[.int .i64 3] w (.string ⟨#[100,101,102,105,110,101]⟩):=by go_enter func189,ntmps189;go_wp2_with fail;go_ret;exact⟨rfl,rfl⟩
theorem Ynx (w:World):Ry 189 #[.int .i64 4] w (.string ⟨#[114,101,109,111,118,101]⟩):=by go_enter func189,ntmps189;go_wp2_with fail;go_ret;exact⟨rfl,rfl⟩
theorem Ynw (w:World):Ry 189 #[.int .i64 5] w (.string ⟨#[114,101,107,101,121]⟩):=by go_enter func189,ntmps189;go_wp2_with fail;go_ret;exact⟨rfl,rfl⟩
end Go.Proofs.YtjolcnopipbkhaaGreatDoor
/- A map from identities to truth values that the program makes and fills. -/
namespace Go.Proofs.YtjolcnopipbkhaaGreatDoor
open Go.Proofs.Tryz
open Go.RowKit Go.Maps
open Go.ChangeMaps (setBlock heap_setBlock_same heap_setBlock_other)
set_option linter.unusedVariables false
set_option maxHeartbeats 100000000
set_option maxRecDepth 100000
def meS (k:Nat)(ids:List (List Nat)):List MapEntry:=(ids.zipIdx k).map fun p=>{key:=.agg (idA p.1),val:=.bool true,born:=p.2}
def MId (w:World)(b:Nat)(ids:List (List Nat)):Prop:=w.heap[b]?=some (.map (meS 0 ids).toArray ids.length)
theorem MId.lt {w:World}{b:Nat}{ids:List (List Nat)}(h:MId w b ids):b<w.heap.size:=zY h
theorem MId.below {w w':World}{b:Nat}{ids:List (List Nat)}(h:MId w b ids)(hb:Bw w w'):MId w' b ids:=(hb.block b h.lt).trans h
theorem MId.made (w:World):MId (w.alloc (.map #[] 0)) w.heap.size []:=zN w _
theorem Ye1 (ids:List (List Nat))(x:List Nat):meS 0 (ids++[x])=meS 0 ids++[{key:=.agg (idA x),val:=.bool true,born:=ids.length}]:=by simp[meS,List.zipIdx_append]
theorem Xof (w:World)(em:Bool){x:List Nat}(hx:IdOk x):(Instr.checkKey em 10000 26 (.agg (idA x))).run prog w=.ok () w:=
 run_checkKey_deep em 9997 3 26 (by kernel_rfl) w 2 (.agg (idA x)) (Xcv x) (by simp[Value.formed,underlying26,Xog,Xaf,hx.len]) (Xr2 0 hx)
theorem Xle (w:World){x:List Nat}(hx:IdOk x):∀(ids:List (List Nat)) (k i:Nat),(∀y∈ids,IdOk y)→ ∃r,(Instr.findAsking 26 (.agg (idA x)) (meS k ids) i).run prog w=.ok r w∧((x∉ids∧r=none)∨(x∈ids∧∃j,r=some (j,.bool true)))
 |[],_,_,_=>⟨none,rfl,.inl ⟨by simp,rfl⟩⟩
 |y::ids,k,i,hy=>by
  have a:=Yfq w hx (hy y (by simp));by_cases h:x=y;·subst h;refine⟨some (i,.bool true),?_,.inr ⟨by simp,i,rfl⟩⟩;simp only[meS,List.zipIdx_cons,List.map_cons,Instr.findAsking,Sem.run_bind,a,Result.andThen_ok];simp
  obtain⟨r,c,d⟩:=Xle w hx ids (k+1) (i+1) (fun z hz=>hy z (by simp[hz]));refine⟨r,?_,?_⟩;·simp only[meS,List.zipIdx_cons,List.map_cons,Instr.findAsking,Sem.run_bind,a,Result.andThen_ok,zW h];exact c
  simpa [h] using d
theorem Xii (w:World)(k:Value)(es:List MapEntry):(Instr.findKey 26 k es).run prog w=(Instr.findAsking 26 k es).run prog w:=by
 unfold Instr.findKey;rw[Sem.run_bind,run_underlying underlying26]
 cases es with
 |nil=>rfl
 |cons e es=>rfl
section
variable (w:World) {b:Nat} {ids:List (List Nat)} (h:MId w b ids) (hi:∀y∈ids,IdOk y) {x:List Nat} (hx:IdOk x)
include h hi hx
theorem Yaa:(Instr.lookup 135 (.map (some b)) (.agg (idA x)) false).run prog w=.ok (.bool (decide (x∈ids))) w:=by
 obtain⟨r,c,a⟩:=Xle w hx ids 0 0 hi;have z:(zeroValue 4).run prog w=.ok (.bool false) w:=by kernel_rfl
 rcases a with⟨a,rfl⟩|⟨a,j,rfl⟩;·simp[Instr.lookup,run_underlying underlying135,MapKept.run_getObj_map h,Xof w _ hx,Xii,c,z,Result.andThen,a]
 simp[Instr.lookup,run_underlying underlying135,MapKept.run_getObj_map h,Xof w _ hx,Xii,c,Result.andThen,a]
theorem Xyg (hn:x∉ids):∃w',(Instr.mapUpdate 135 (.map (some b)) (.agg (idA x)) (.bool true)).run prog w=.ok () w'∧MId w' b (ids++[x])∧w.grownBy w' (some b):=by
 obtain⟨r,c,a⟩:=Xle w hx ids 0 0 hi;rcases a with⟨_,rfl⟩|⟨a,_⟩
 ·refine⟨setBlock w b (.map ((meS 0 ids).toArray.push {key:=.agg (idA x),val:=.bool true,born:=ids.length}) (ids.length+1)),by simp[Instr.mapUpdate,run_underlying underlying135,MapKept.run_getObj_map h,Xof w _ hx,Xii,c,MapKept.run_setObj_map _ h,Result.andThen,setBlock],?_,?_⟩;·unfold MId;rw[Ye1,heap_setBlock_same h];simp
  exact⟨rfl,rfl,rfl,by simp[setBlock],fun i _ hi=>heap_setBlock_other h _ (fun e=>hi (by rw[e]))⟩
 exact absurd a hn
end
end Go.Proofs.YtjolcnopipbkhaaGreatDoor
/- strings.Join; groupname.FormatList. -/
namespace Go.Proofs.YtjolcnopipbkhaaGreatDoor
open Go.Proofs.Tryz
open Go.RowKit Go.Maps
set_option linter.unusedVariables false
set_option maxHeartbeats 100000000
set_option maxRecDepth 100000
def Xvk (c:Nat)(ls:List (List Nat))(w:World)(e:Ending)(w':World):Prop:=∃t:ByteArray,e=.returned (.string t)∧bs t=Xa9 [c] ls∧Bw w w'
theorem Xuq (w:World)(v:Value)(gs:List ByteArray)(c:UInt8)(hr:SRow w v gs)(hl:gs.length≤1000000)(hlen:(Xa9 [c.toNat] (gs.map bs)).length≤140737488355328):Calls prog 78 #[v,.string ⟨#[c]⟩] w (Xvk c.toNat (gs.map bs) w):=by
 have k:∀l:List ByteArray,(Lib.join (l.map (·.data.toList)) [c]).map UInt8.toNat=Xa9 [c.toNat] (l.map bs):=by intro l;have:=Xwz [c] (l.map (·.data.toList));rw[List.map_map] at this;exact this
 obtain⟨a,cap,rfl,f,d⟩:=hr;by_cases h0:gs=[]
 ·subst h0;exact(Xgj a cap ⟨#[c]⟩ w).mono fun e w' h=>⟨⟨#[]⟩,h.1,rfl,by rw[h.2];exact zR _ _⟩
 obtain⟨b,off,rfl,m,g⟩:=d h0;refine(Xkk b off cap gs ⟨#[c]⟩ w (fun j x hx=>?_) m (by omega) f ?_).mono fun e w' h=>⟨_,h.1,?_,h.2⟩
 ·obtain⟨i,rfl⟩:=List.getElem?_eq_some_iff.1 hx;exact g j i
 ·have:=congrArg List.length (k gs);rw[List.length_map] at this;show(Lib.join (gs.map (·.data.toList)) [c]).length≤_;rw[this];exact hlen
 rw[Xi9];exact k gs
theorem Xmh {f:List Nat→Nat}{d:Nat}(hd:d≠0):∀(r pre:List (List Nat)),Xc6 f d pre r=0→∀x∈r,f x=0
 |[],_,_,x,a=>by simp at a
 |y::r,pre,h,x,a=>by
  rw[Xc6] at h;by_cases h1:f y=0
  ·rw[qN (by simpa using h1)] at h;split at h;·exact absurd h hd
   rcases List.mem_cons.1 a with rfl|a;·exact h1
   exact Xmh hd r _ h x a
  rw[qP h1] at h;exact absurd h h1
theorem Xmi {f:List Nat→Nat}{l:List (List Nat)}(h:Xcy f l=0):l.length≤20∧∀x∈l,f x=0:=by
 unfold Xcy at h;by_cases h1:20<l.length;·rw[qP h1] at h;omega
 rw[qN h1] at h;exact⟨by omega,Xmh (by decide) _ _ h⟩
theorem Xwm {x:List Nat}(h:Xbo x=0):x.length≤80:=by
 unfold Xbo at h;by_cases h1:80<x.length;·rw[qP h1] at h;omega
 omega
theorem Xkr (m:Nat)(c:Nat):∀l:List (List Nat),(∀x∈l,x.length≤m)→(Xa9 [c] l).length≤l.length*(m+1)
 |[],_=>by simp[Xa9]
 |[x],h=>by have:=h x (by simp);simp[Xa9];omega
 |x::y::r,h=>by have b:=h x (by simp);have a:=Xkr m c (y::r) (fun z hz=>h z (by simp[hz]));rw[Xa9];simp only[List.length_append,List.length_cons,List.length_nil] at a⊢;rw[Nat.succ_mul];omega
def Xtb (err:Nat)(text:List Nat)(w:World)(e:Ending)(w':World):Prop:=
 ∃t:ByteArray,e=.returned (.tuple #[.string t,.int .i64 (err:Nat)])∧(err=0→bs t=text)∧(err≠0→t=⟨#[]⟩)∧Bw w w'
theorem Xqe (w:World)(v:Value)(gs:List ByteArray)(hr:SRow w v gs)(hl:gs.length≤1000000)(hz:∀g∈gs,g.size≤1000000)(hE:Env w):Calls prog 34 #[v] w (Xtb (Xco (gs.map bs)) (Xa9 [44] (gs.map bs)) w):=by
 by_cases h0:gs=[]
 ·subst h0;obtain⟨a,cap,rfl,_,_⟩:=hr;clear hl hz hE;go_enter func34,ntmps34;go_wp2_with fail;go_ret2;exact⟨⟨#[]⟩,rfl,(fun h=>by cases h),(fun _=>rfl),zR _ _⟩
 have hv:∃a cap,v=.slice a gs.length cap:=by obtain⟨a,cap,h,_⟩:=hr;exact⟨a,cap,h⟩
 obtain⟨a,cap,rfl⟩:=hv;have d:gs.length≠0:=fun e=>h0 (List.length_eq_zero_iff.1 e);have C:=Hd (Yca w _ gs hr hl hz hE);have G:Hid (Xco (gs.map bs)=Xcy Xbo (gs.map bs)):=Hd (by unfold Xco;rw[qN (by simpa using h0)]);have u:=Hd hr;have J:Hid (∀w',Bw w w'→Xcy Xbo (gs.map bs)=0→Calls prog 78 #[.slice a gs.length cap,.string ⟨#[44]⟩] w' (Xvk 44 (gs.map bs) w')):=Hd (fun w' hb h=>by obtain⟨y,s⟩:=Xmi h;have:=Xkr 80 44 (gs.map bs) (fun x hx=>Xwm (s x hx));exact Xuq w' _ gs 44 (hr.below hb) hl (by show(Xa9 [44] (gs.map bs)).length≤_;omega));obtain⟨n,k⟩:=xq gs.length;rw[←k] at d C J⊢;have z:((n:Int)==0)=false:=Xar (by omega);obtain⟨m,j⟩:=xq (Xcy Xbo (gs.map bs));rw[←j] at C G J;rw[G.o];clear hr hl hz hE k d j h0;go_enter func34,ntmps34;go_wp2_with fail;refine C.o.mono ?_;rintro e w1 ⟨rfl,b⟩;have i:=Hd b;clear b C;by_cases m0:m=0;·have r:((m:Int) !=0)=false:=Xaw (by omega);have K:=Hd (J.o w1 i.o m0);have f:=Hd m0;clear m0 J;go_wp2_with fail;refine K.o.mono ?_;rintro e A ⟨t,rfl,l,c⟩;have p:=bh i c;have q:=Hd l;clear c l K;go_wp2_with fail;go_ret2;exact⟨t,by rw[f.o];rfl,(fun _=>q.o),(fun h=>absurd f.o h),p.o⟩
 have r:((m:Int) !=0)=true:=Xaq (by omega);have f:=Hd m0;clear m0 J;go_wp2_with fail;go_ret2;exact⟨⟨#[]⟩,rfl,(fun h=>absurd h f.o),(fun _=>rfl),i.o⟩
section
variable {P:Program} {ops:Array Oper} {rest:List Oper} {o:Oper} {a:Act} {w w':World} {Q:Exit→Act→World→Prop} {v:Value}
theorem Xsg {t:TypeId}{m x:Operand}{ok:Bool}{mv kv:Value}(ho:o.op=.lookup t m x ok)(hm:a.eval m=mv)(hx:a.eval x=kv)(h:(Instr.lookup t mv kv ok).run P w=.ok v w'):(execOp a.eval o).run P w=.ok (.value v) w':=by unfold execOp;simp only[ho,hm,hx,Sem.run_bind,Sem.run_pure,Result.andThen_ok,h]
theorem Xlu {t:TypeId}{m x y:Operand}{mv kv yv:Value}(ho:o.op=.mapUpdate t m x y)(hm:a.eval m=mv)(hx:a.eval x=kv)(hy:a.eval y=yv)(h:(Instr.mapUpdate t mv kv yv).run P w=.ok () w'):(execOp a.eval o).run P w=.ok .skip w':=by unfold execOp;simp only[ho,hm,hx,hy,Sem.run_bind,Sem.run_pure,Result.andThen_ok,h]
theorem Xgn (t:TypeId)(hgd:o.guard=none)(m x:Operand)(ho:o.op=.lookup t m x false)(h:∃c b v,a.eval m=c∧a.eval x=b∧(Instr.lookup t c b false).run P w=.ok v w∧wpList P ops Q rest (a.put o.dst v) w):wpList P ops Q (o::rest) a w:=by obtain⟨c,b,v,d,e,f,g⟩:=h;exact Xaz hgd (Xsg ho d e f) g
theorem Xll (t:TypeId)(hgd:o.guard=none)(m x y:Operand)(ho:o.op=.mapUpdate t m x y)(h:∃c b d w',a.eval m=c∧a.eval x=b∧a.eval y=d∧(Instr.mapUpdate t c b d).run P w=.ok () w'∧wpList P ops Q rest (a.put o.dst undef) w'):wpList P ops Q (o::rest) a w:=by obtain⟨c,b,d,w',e,f,g,i,j⟩:=h;exact Xfj hgd (Xlu ho e f g i) j
end
def cnF (ids:List (List Nat))(x:List Nat):Nat:=if x=zero32 then 1 else if x∈ids then 7 else 0
def Yhw (w:World)(b:Nat)(ids:List (List Nat))(x:List Nat)(e:Ending)(w':World):Prop:=
 e=.returned (.int .i64 (cnF ids x:Nat))∧(cnF ids x=0→MId w' b (ids++[x]))∧Fr1 b w w'
theorem Fr1.grown {b:Nat}{w w':World}(h:w.grownBy w' (some b)):Fr1 b w w':=⟨h.os,h.tape,h.output,h.size,fun k hk hne=>h.block k hk (fun e=>hne (by cases e;rfl))⟩
theorem Yb0 (w:World)(b:Nat)(ids:List (List Nat))(hm:MId w b ids)(hi:∀y∈ids,IdOk y){x:List Nat}(hx:IdOk x):Calls prog 89 #[.agg (idA x),.map (some b)] w (Yhw w b ids x):=by
 obtain⟨cs,c⟩:=xq (idA x);obtain⟨p,E⟩:=xq w.heap.size;have r:Hid (Bw w (w.alloc (.cells cs 26))):=Hd ((zR _ _).alloc (zL _) _);have j:Hid (∀w',Below (w.alloc (.cells cs 26)).heap.size (w.alloc (.cells cs 26)) w'→Ld 26 ⟨w.heap.size,0,none⟩ w' (.agg cs)):=Hd (fun w' h=>by rw[c];exact Xkg _ w.heap.size 0 _ _ _ hx.len ((h.block w.heap.size (by simp)).trans (by rw[c];exact heap_alloc_last w _)) (Xg5 x));have Z:=Hd (Xf7 (w.alloc (.cells cs 26)) hx);have u:Hid (∀w',Below (w.alloc (.cells cs 26)).heap.size (w.alloc (.cells cs 26)) w'→(Instr.lookup 135 (.map (some b)) (.agg cs) false).run prog w'=.ok (.bool (decide (x∈ids))) w'):=Hd (fun w' h=>by rw[c];exact Yaa w' ((hm.below r.o).below h) hi hx);have z:Hid (∀w',Below (w.alloc (.cells cs 26)).heap.size (w.alloc (.cells cs 26)) w'→x∉ids→∃w'',(Instr.mapUpdate 135 (.map (some b)) (.agg cs) (.bool true)).run prog w'=.ok () w''∧MId w'' b (ids++[x])∧w'.grownBy w'' (some b)):=Hd (fun w' h hn=>by rw[c];exact Xyg w' ((hm.below r.o).below h) hi hx hn);have l:=j.o _ (zR _ _);have k:=Hd l;have t:Hid (cnF ids x=if x=zero32 then 1 else if x∈ids then 7 else 0):=Hd rfl;rw[←c] at Z⊢;clear c E hm hi hx l;go_enter func89,ntmps89;go_upto_region 1 with fail;refine wp_region_list ?_;simp only[];refine Xab 26 rfl _ rfl ⟨_,_,rfl,k.o,?_⟩;go_wp2_with fail;refine Z.o.mono ?_;rintro e w1 ⟨rfl,d⟩;have m:=Hd (j.o w1 d);have f:=Hd (u.o w1 d);have n:=Hd (z.o w1 d);have s:=bh r d;clear d Z j u z k;by_cases hz:x=zero32;·have i:Hid (cnF ids x=1):=Hd (by rw[t.o,qP hz]);rw[zT hz];clear hz;go_wp2_with fail;go_ret;exact⟨by rw[i.o];rfl,(fun h=>by rw[i.o] at h;cases h),Fr1.of_below s.o⟩
 rw[zW hz];by_cases hm:x∈ids
 ·have i:Hid (cnF ids x=7):=Hd (by rw[t.o,qN hz,qP hm]);rw[zT hm] at f;clear hz hm;go_wp2_with (first
   |((with_reducible refine Xab 26 rfl _ rfl ?_);refine⟨_,_,rfl,m.o,?_⟩)
   |((with_reducible refine Xgn 135 rfl _ _ rfl ?_);refine⟨_,_,_,rfl,rfl,f.o,?_⟩))
  go_ret;exact⟨by rw[i.o];rfl,(fun h=>by rw[i.o] at h;cases h),Fr1.of_below s.o⟩
 have i:Hid (cnF ids x=0):=Hd (by rw[t.o,qN hz,qN hm]);obtain⟨F,A,g,q⟩:=n.o hm;have D:=Hd A;have C:=Hd g;have B:=Hd q;rw[zW hm] at f;clear hz hm A g q n;go_wp2_with (first
  |((with_reducible refine Xab 26 rfl _ rfl ?_);refine⟨_,_,rfl,m.o,?_⟩)
  |((with_reducible refine Xgn 135 rfl _ _ rfl ?_);refine⟨_,_,_,rfl,rfl,f.o,?_⟩)
  |((with_reducible refine Xll 135 rfl _ _ _ rfl ?_);refine⟨_,_,_,_,rfl,rfl,rfl,D.o,?_⟩))
 go_ret;exact⟨by rw[i.o];rfl,(fun _=>C.o),(Fr1.of_below s.o).trans (Fr1.grown B.o)⟩
def zF (x:List Nat):Nat:=if x=zero32 then 1 else 0
theorem Xt6 (l:List (List Nat)):Xgi l=Xcy zF l:=rfl
theorem Yf7 {L:List (List Nat)}{j:Nat}(h:j<L.length):Xc6 zF 7 (L.take j) (L.drop j)=if cnF (L.take j) L[j]≠0 then cnF (L.take j) L[j] else Xc6 zF 7 (L.take (j+1)) (L.drop (j+1)):=by
 rw[Xid zF 7 L j h];unfold cnF zF;by_cases h1:L[j]=zero32;·simp[h1]
 by_cases h2:L[j]∈L.take j<;>simp[h1,h2]
theorem Xmd (w:World)(v:Value)(ids:List (List Nat))(hr:IRow w v ids)(hl:ids.length≤1000000)(hi:∀y∈ids,IdOk y):zJ 45 #[v] w (.int .i64 (Xgi ids:Nat)):=by
 rw[Xt6];obtain⟨n,s⟩:=xq ids.length;obtain⟨a,cap,rfl,A,c⟩:=hr;rw[←s] at A hl⊢;have Q:=Hd s;have T:=Hd c;have P:=Hd hi;by_cases h20:20<n;·have F:Hid (Xcy zF ids=9):=Hd (by unfold Xcy;rw[qP (by rw[←s];exact h20)]);clear c s hi;go_enter func45,ntmps45;go_wp2_with fail;go_ret;exact⟨by rw[F.o];rfl,zR _ _⟩
 have F:Hid (Xcy zF ids=Xc6 zF 7 (ids.take 0) (ids.drop 0)):=Hd (by unfold Xcy;rw[qN (by rw[←s];exact h20)];rfl);have q:=@run_makeMap prog;clear c s hi;go_enter func45,ntmps45;go_wp2_with fail;clear q;go_loopg [5,6,13] n (fun k s5 s6 i wr=>∃j:Nat,j≤n∧k=n-j∧i=.int .i64 (j:Int)∧Hid (Xcy zF ids=Xc6 zF 7 (ids.take j) (ids.drop j))∧Hid (MId wr w.heap.size (ids.take j))∧Hid (Bw w wr));exact⟨0,by omega,rfl,rfl,F,Hd (by simpa using MId.made w),Hd ((zR _ _).alloc (zL _) _)⟩;obtain⟨j,X,rfl,rfl,K,S,M⟩:=hrel;by_cases h:j<n
 ·have d:j<ids.length:=by rw[←Q.o];exact h
  obtain⟨b,off,rfl,N,B⟩:=T.o (by intro e;rw[e] at d;simp at d);obtain⟨x,D⟩:=xq (ids[j]);have l:IdOk x:=by rw[D];exact P.o _ (zG d)
  have R:Hid (Ld 26 ⟨b,off+j*32,none⟩ wr (.agg (idA x))):=Hd
   (Xai wr b (off+j*32) 26 (idA x) _ underlying26 rfl (by rw[Xaf,l.len];exact Xbh) (fun k u hu=>by rw[M.o.cell (p:=⟨b,off+j*32+k,none⟩) N];exact B j d k u (by rw[←D];exact hu)))
  have E:=Hd (Yf7 (L:=ids) d);rw[←D] at E;have V:Hid (ids.take (j+1)=ids.take j++[x]):=Hd (by rw[List.take_succ_eq_append_getElem d,←D]);have g:(idA x).size=32:=by rw[Xaf,l.len]
  have z:Hid (∀zz:Array Value,zz.size=32→Sv 26 ⟨wr.heap.size,0,none⟩ (.agg (idA x)) (wr.alloc (.cells zz 26)) (wr.alloc (.cells (idA x) 26))):=Hd (fun zz hz=>run_storeVar_new wr 26 zz (idA x) (by rw[g];exact Xbh) (by rw[hz,g]) (Xec _));have t:Hid (Ld 26 ⟨wr.heap.size,0,none⟩ (wr.alloc (.cells (idA x) 26)) (.agg (idA x))):=Hd (Xkg _ wr.heap.size 0 _ _ _ l.len (heap_alloc_last wr _) (Xg5 x));have H:Hid (Bw wr (wr.alloc (.cells (idA x) 26))):=Hd ((zR _ _).alloc (zL _) _);have r:=Hd (Yb0 (wr.alloc (.cells (idA x) 26)) w.heap.size (ids.take j) (S.o.below H.o) (fun y hy=>P.o y (List.mem_of_mem_take hy)) l);have G:Hid (Bw w (wr.alloc (.cells (idA x) 26))):=Hd (bg M.o H.o);obtain⟨cs,C⟩:=xq (idA x);rw[←C] at R z t r G;obtain⟨m,q⟩:=xq (cnF (ids.take j) x);unfold Yhw at r;rw[←q] at r E;clear D B C g l H S q;go_upto_region 7 with(first
   |((with_reducible refine Xab 26 rfl _ rfl ?_);refine⟨_,_,rfl,R.o,?_⟩)
   |((with_reducible refine Xaa 26 rfl _ _ rfl ?_);refine⟨_,_,_,rfl,rfl,z.o _ rfl,?_⟩))
  refine wp_region_list ?_;simp only[];refine Xab 26 rfl _ rfl ⟨_,_,rfl,t.o,?_⟩;go_wp2_with fail;refine r.o.mono ?_;rintro e w1 ⟨rfl,J,I⟩;have O:Hid (Bw w w1):=Hd (G.o.trans (I.below G.o.size (zL _)));by_cases m0:m=0;·have W:((m:Int) !=0)=false:=Xaw (by omega);have U:Hid (MId w1 w.heap.size (ids.take (j+1))):=Hd (by rw[V.o];exact J m0);have f:Hid (Xcy zF ids=Xc6 zF 7 (ids.take (j+1)) (ids.drop (j+1))):=Hd (by rw[K.o,E.o,qN (by omega)]);clear m0 J I r;go_wp2_with fail;go_roundg (n-(j+1));exact⟨j+1,by omega,rfl,by go_num,f,U,O⟩;omega
  have W:((m:Int) !=0)=true:=Xaq (by omega);have f:Hid (Xcy zF ids=m):=Hd (by rw[K.o,E.o,qP m0]);clear m0 J I r;go_wp2_with fail;go_ret;exact⟨by rw[f.o];rfl,O.o⟩
 obtain rfl:j=n:=by omega
 have f:Hid (Xcy zF ids=0):=Hd (by rw[K.o,List.drop_of_length_le (by rw[Q.o];exact zL _)];rfl);go_wp2_with fail;go_ret;exact⟨by rw[f.o];rfl,M.o⟩
theorem Yfd:(prog.info? 9).map (fun i=>(i.zero,i.size,i.bytes))=some (some (.string ⟨#[]⟩),1,16):=by kernel_rfl
theorem Xnv {w:World}{base:Nat}{v:Value}{gs:List ByteArray}(h:w.ownsRow base 9 1 v gs.length (gs.map Value.string)):SRow w v gs:=by
 rcases h.2 with⟨rfl,h0⟩|⟨g,cap,cur,rfl,hb,hg,hc,_,hs,ht⟩;·exact⟨none,0,by rw[h0],by rw[h0];exact zL _,fun hne=>absurd (List.length_eq_zero_iff.1 h0) hne⟩
 refine⟨some ⟨g,0,none⟩,cap,rfl,hc,fun _=>⟨g,0,rfl,zY hg,fun j hj=>?_⟩⟩;rw[Nat.zero_add,cell_of_row w g j _ _ _ hg];have a:(cur.toList.take (gs.length*1))[j]?=some (.string gs[j]):=by rw[ht];simp[hj]
 rw[List.getElem?_take,qP (by omega)] at a;simpa using a
theorem Xhg {x:List Nat}(h:IdOk x):(Xfi x).length=71:=by simp[Xfi,Xb9,h.len,sHash]
theorem Yi7 {x:List Nat}(h:IdOk x):∀c∈Xfi x,c<256:=by
 intro c a;simp only[Xfi,List.cons_append,List.mem_cons,List.mem_append] at a;rcases a with rfl|a|a;·omega
 ·exact Ya0 h.lt c a
 simp[sHash] at a;omega
theorem Xep {W w2:World}{base e size n:Nat}{v:Value}{xs:List Value}(h:W.ownsRow base e size v n xs)(hb:Bw W w2):w2.ownsRow base e size v n xs:=by
 rcases h.2 with⟨rfl,h0⟩|⟨g,cap,cur,rfl,hg,hgb,r⟩;·exact⟨h.1,.inl ⟨rfl,h0⟩⟩
 exact⟨h.1,.inr ⟨g,cap,cur,rfl,hg,(hb.block g (zY hgb)).trans hgb,r⟩⟩
def Xg9 (ids:List (List Nat)):List ByteArray:=ids.map fun x=>Xax (Xfi x)
theorem Xny {ids:List (List Nat)}(h:∀x∈ids,IdOk x):(Xg9 ids).map bs=ids.map Xfi:=by unfold Xg9;rw[List.map_map];exact List.map_congr_left fun x hx=>Xd2 _ (Yi7 (h x hx))
theorem Xv3 (w:World)(v:Value)(ids:List (List Nat))(hr:IRow w v ids)(hl:ids.length≤1000000)(hi:∀y∈ids,IdOk y):Calls prog 35 #[v] w (Xtb (Xgi ids) (Xa9 [32] (ids.map Xfi)) w):=by
 obtain⟨i0,aA,aB,aC,aD⟩:=info_parts Yfd;obtain⟨n,hn⟩:=xq ids.length;have C:=Hd (Xmd w v ids hr hl hi);obtain⟨a,cap,rfl,L,d⟩:=hr;rw[←hn] at L hl C⊢;have H:=Hd hn;have HC:=Hd d;have R:=Hd hi;obtain⟨m,hm⟩:=xq (Xgi ids);rw[←hm] at C⊢;have HM:=Hd hm;clear d hn hi hm;go_enter func35,ntmps35;go_wp2_with fail;refine C.o.mono ?_;rintro e w1 ⟨rfl,I⟩;have V:=Hd I;clear I C;by_cases m0:m=0
 ·have q0:((m:Int) !=0)=false:=Xaw (by omega);have aF:n≤20:=by rw[H.o];exact(Xmi (f:=zF) (l:=ids) (by rw[←Xt6,←HM.o];exact m0)).1
  have S:=Hd m0;clear m0;go_wp2_with fail;go_loopg [5,7,15] n (fun k v s7 i wr=>∃j:Nat,j≤n∧k=n-j∧i=.int .i64 (j:Int)∧Hid (wr.ownsRow w1.heap.size 9 1 v j ((Xg9 (ids.take j)).map Value.string))∧Hid (Bw w1 wr));exact⟨0,by omega,rfl,rfl,Hd (World.ownsRow_nil _ _ _ _),Hd (zR _ _)⟩;obtain⟨j,hj,rfl,rfl,P,E⟩:=hrel;by_cases h:j<n
  ·have c:j<ids.length:=by rw[←H.o];exact h
   obtain⟨b,off,rfl,Z,M⟩:=HC.o (by intro e;rw[e] at c;simp at c);obtain⟨x,F⟩:=xq (ids[j]);have z:IdOk x:=by rw[F];exact R.o _ (zG c)
   have K:Bw w wr:=bg V.o E.o;have X:Hid (Ld 26 ⟨b,off+j*32,none⟩ wr (.agg (idA x))):=Hd
    (Xai wr b (off+j*32) 26 (idA x) _ underlying26 rfl (by rw[Xaf,z.len];exact Xbh) (fun k u hu=>by rw[K.cell (p:=⟨b,off+j*32+k,none⟩) Z];exact M j c k u (by rw[←F];exact hu)))
   have TS:Hid ((Xg9 (ids.take (j+1))).map Value.string=(Xg9 (ids.take j)).map Value.string++[.string (Xax (Xfi x))]):=Hd (by unfold Xg9;rw[List.take_succ_eq_append_getElem c,←F];simp);have s:(idA x).size=32:=by rw[Xaf,z.len]
   have D:Hid (∀zz:Array Value,zz.size=32→Sv 26 ⟨wr.heap.size,0,none⟩ (.agg (idA x)) (wr.alloc (.cells zz 26)) (wr.alloc (.cells (idA x) 26))):=Hd (fun zz hz=>run_storeVar_new wr 26 zz (idA x) (by rw[s];exact Xbh) (by rw[hz,s]) (Xec _));have B:Hid (Ld 26 ⟨wr.heap.size,0,none⟩ (wr.alloc (.cells (idA x) 26)) (.agg (idA x))):=Hd (Xkg _ wr.heap.size 0 _ _ _ z.len (heap_alloc_last wr _) (Xg5 x));have W:Hid (Bw w1 (wr.alloc (.cells (idA x) 26))):=Hd (E.o.alloc E.o.size _);have Y:Hid ((wr.alloc (.cells (idA x) 26)).ownsRow w1.heap.size 9 1 u5 j ((Xg9 (ids.take j)).map Value.string)):=Hd (P.o.alloc _);have T:=Hd (Xmf (wr.alloc (.cells (idA x) 26)) z);obtain⟨cs,N⟩:=xq (idA x);rw[←N] at X D B T W Y;obtain⟨t,Q⟩:=xq (Xax (Xfi x));rw[←Q] at T TS;clear F M N s z P E Q K;go_upto_region 8 with(first
    |((with_reducible refine Xab 26 rfl _ rfl ?_);refine⟨_,_,rfl,X.o,?_⟩)
    |((with_reducible refine Xaa 26 rfl _ _ rfl ?_);refine⟨_,_,_,rfl,rfl,D.o _ rfl,?_⟩))
   go_wp2_with ((with_reducible refine Xab 26 rfl _ rfl ?_);refine⟨_,_,rfl,B.o,?_⟩)
   refine T.o.mono ?_;rintro e U ⟨rfl,g⟩;have G:=bh W g;have O2:=Hd (Xep Y.o g);have aE:w1.heap.size≤U.heap.size:=G.o.size;clear g T Y W B X D;go_wp2_with (at_builtin;refine wpList_append_own _ rfl _ _ 23 rfl w1.heap.size 9 i0 (.string ⟨#[]⟩) 1 16 underlying23 aA aB aC aD rfl (by decide) _ _ _ rfl (O2.o.alloc _) ⟨U.heap.size,0,none⟩ 1 1 [.string t] rfl rfl (World.news_of_block (cs:=#[.string t]) (t:=9) (fr:=(0,0)) (zN U _)) (by simp[Value.oneCell']) (by unfold maxLen;omega) (by omega) (by simp;omega) ?_;intro v' w3 r q _)
   have O3:Hid (w3.ownsRow w1.heap.size 9 1 v' (j+1) ((Xg9 (ids.take (j+1))).map Value.string)):=Hd (by rw[TS.o];exact r);have B3:Hid (Bw w1 w3):=Hd (Below.grown (G.o.alloc G.o.size _) q (by simp;omega) (fun k hk=>(O2.o.lt k hk).1));clear r q;go_wp2_with fail;go_roundg (n-(j+1));exact⟨j+1,by omega,rfl,by go_num,O3,B3⟩;omega
  obtain rfl:j=n:=by omega
  have A:ids.take j=ids:=List.take_of_length_le (by rw[H.o];exact zL _);rw[A] at P;have O:(Xg9 ids).length=j:=by unfold Xg9;rw[List.length_map,H.o]
  have SR:SRow wr u5 (Xg9 ids):=Xnv (base:=w1.heap.size) (by rw[O];exact P.o);have c:=Xkr 71 32 (ids.map Xfi) (fun x F=>by obtain⟨y,hy,rfl⟩:=List.mem_map.1 F;rw[Xhg (R.o y hy)];exact zL _);rw[List.length_map,←H.o] at c;have J:=Hd (Xuq wr u5 (Xg9 ids) 32 SR (by omega) (by rw[Xny R.o];show(Xa9 [32] (ids.map Xfi)).length≤_;omega));rw[Xny R.o] at J;have BW:=Hd (bg V.o E.o);clear A P O SR c E;go_wp2_with fail;refine J.o.mono ?_;rintro e U ⟨t,rfl,Q,g⟩;have G:=bh BW g;have HT:=Hd Q;clear g Q J;go_wp2_with fail;go_ret2;exact⟨t,by rw[S.o];rfl,(fun _=>HT.o),(fun h=>absurd S.o h),G.o⟩
 have q0:((m:Int) !=0)=true:=Xaq (by omega);have S:=Hd m0;clear m0;go_wp2_with fail;go_ret2;exact⟨⟨#[]⟩,rfl,(fun h=>absurd h S.o),(fun _=>rfl),V.o⟩
theorem Ym0:∀(l:List Value),l.length=16→prog.builtSlice 35 1 [((0:Nat),Value.agg l.toArray)]=some l.toArray
 |[v0,v1,v2,v3,v4,v5,v6,v7,v8,v9,v10,v11,v12,v13,v14,v15],_=>by kernel_rfl
theorem Yma:(prog.info? 35).map (fun i=>(i.zero,i.size,i.bytes))=some (some (.agg (idA Xel)),16,16):=by kernel_rfl
theorem Ybd:∀(l:List Value),l.length=16→Array.foldl (fun(cs:Array Value) (x:Value×Nat)=>cs.setIfInBounds x.snd x.fst) #[Value.int .u8 0,.int .u8 0,.int .u8 0,.int .u8 0,.int .u8 0,.int .u8 0,.int .u8 0,.int .u8 0,.int .u8 0,.int .u8 0,.int .u8 0,.int .u8 0,.int .u8 0,.int .u8 0,.int .u8 0,.int .u8 0] l.toArray.zipIdx 0 l.toArray.size=l.toArray
 |[v0,v1,v2,v3,v4,v5,v6,v7,v8,v9,v10,v11,v12,v13,v14,v15],_=>by kernel_rfl
def auZ (g:ByteArray):List Nat:=(Xfz (bs g)).getD Xel
theorem Xht (g:ByteArray):AuOk (auZ g):=by
 unfold auZ
 cases h:Xfz (bs g) with
 |none=>exact Xha
 |some id=>exact Ycl h
def Xcj (gs:List ByteArray):List Value:=gs.flatMap fun g=>(auZ g).map U
theorem Xiy (gs:List ByteArray)(g:ByteArray):Xcj (gs++[g])=Xcj gs++(auZ g).map U:=by simp[Xcj]
def Xds (gs:List ByteArray):Nat:=if gs.any (fun g=>(Xfz (bs g)).isNone)=true then 3 else 0
theorem Xm1 (gs:List ByteArray)(g:ByteArray):Xds (gs++[g])=fe (Xds gs) (if(Xfz (bs g)).isNone=true then 3 else 0):=by unfold Xds fe;rw[List.any_append];cases gs.any (fun g=>(Xfz (bs g)).isNone)<;>cases h:(Xfz (bs g)).isNone<;>simp[h]
theorem Xjg:∀(gs:List ByteArray),((gs.map bs).mapM Xfz)=if gs.any (fun g=>(Xfz (bs g)).isNone)=true then none else some (gs.map auZ)
 |[]=>rfl
 |g::gs=>by
  have a:=Xjg gs;rw[List.map_cons,List.mapM_cons,List.any_cons,a]
  cases h:Xfz (bs g) with
  |none=>simp
  |some id=>
   have e:auZ g=id:=by unfold auZ;rw[h];rfl
   cases hq:gs.any (fun g=>(Xfz (bs g)).isNone)<;>simp[e]
theorem Yez {x:List Nat}{gs:List ByteArray}(h:gs.map bs=spl 44 x):Xc5 x=fe (fe (Xds gs) (eIf (decide (8<gs.length)) 9)) (eIf (!Xmp (gs.map auZ)) 30):=by
 unfold Xc5 Xds fe eIf;rw[←h,Xjg];cases gs.any (fun g=>(Xfz (bs g)).isNone);·simp only[Bool.false_eq_true,if_false,List.length_map];by_cases h8:8<gs.length<;>cases Xmp (gs.map auZ)<;>simp[h8]
 simp
def Yk1 (t:ByteArray)(en er en' er':Nat):Prop:=
 ∀k:List Nat→Nat,fe er (nxt ((bs t).drop en) fun m T=>if m=Xgt then k T else if m=Xip then nxt T (fun a T=>fe (Xc5 a) (k T)) else 3)=fe er' (k ((bs t).drop en'))
def Ykt (w:World)(b:Nat)(t:ByteArray)(en er:Nat)(e:Ending)(w':World):Prop:=
 ∃(bo:Bool) (v:Value) (st' en':Nat) (a:Int) (er':Nat),e=.returned (.tuple #[.bool bo,v])∧(∃sa sn sc,v=.slice sa sn sc)∧WS w' b t st' en' a er'∧Fr1 b w w'∧Yk1 t en er en' er'
theorem Xjx {x:ByteArray}{s:ByteArray}(h:bs x=bs s):x=s:=by apply ByteArray.ext;apply Array.toList_inj.1;have:=h;unfold bs at this;exact(List.map_inj_right (fun a b e=>Xiq e)).1 this
theorem Xil:∀(gs:List ByteArray) (q k:Nat) (hq:q<gs.length),k<16→(Xcj gs)[q*16+k]?=((auZ gs[q]).map U)[k]?
 |g::gs,0,k,_,hk=>by show((auZ g).map U++Xcj gs)[0*16+k]?=_;rw[List.getElem?_append_left (by rw[List.length_map,(Xht g).len];omega)];simp
 |g::gs,q+1,k,hq,hk=>by show((auZ g).map U++Xcj gs)[(q+1)*16+k]?=_;rw[List.getElem?_append_right (by rw[List.length_map,(Xht g).len];omega),List.length_map,(Xht g).len,show(q+1)*16+k-16=q*16+k by omega,Xil gs q k (by simpa using hq) hk];rfl
 |[],_,_,hq,_=>by simp at hq
theorem Xzz {w:World}{base n:Nat}{v:Value}{gs:List ByteArray}(hn:n=gs.length)(h:w.ownsRow base 35 16 v n (Xcj gs)):∃(va:Option Addr) (vc:Nat),v=.slice va n vc∧Yky w va (gs.map auZ):=by
 rcases h.2 with⟨rfl,h0⟩|⟨g,cap,cur,rfl,hg,hgb,hc,_,hs,ht⟩;·refine⟨none,0,by rw[h0],fun hne=>absurd ?_ hne⟩;rw[h0] at hn;rw[List.map_eq_nil_iff];exact List.length_eq_zero_iff.1 hn.symm
 refine⟨_,cap,rfl,fun _=>⟨g,0,rfl,fun q hq k u hu=>?_⟩⟩;have b:q<gs.length:=by simpa using hq
 have c:k<16:=by have:=(Array.getElem?_eq_some_iff.1 hu).1;rw[Xaf,List.getElem_map,(Xht _).len] at this;exact this
 rw[Nat.zero_add,cell_of_row w g _ _ _ _ hgb];have a:(cur.toList.take (n*16))[q*16+k]?=some u:=by rw[ht,Xil gs q k b c];rw[List.getElem_map] at hu;unfold idA at hu;rw[List.getElem?_toArray] at hu;exact hu
 rw[List.getElem?_take] at a;split at a;·simpa using a
 cases a
theorem Xnt {W w2:World}{base e size n b:Nat}{v:Value}{xs:List Value}(h:W.ownsRow base e size v n xs)(hb:Fr1 b W w2)(hlt:b<base):w2.ownsRow base e size v n xs:=by
 rcases h.2 with⟨rfl,h0⟩|⟨g,cap,cur,rfl,hg,hgb,r⟩;·exact⟨h.1,.inl ⟨rfl,h0⟩⟩
 exact⟨h.1,.inr ⟨g,cap,cur,rfl,hg,(hb.other g (zY hgb) (by omega)).trans hgb,r⟩⟩
theorem Ye0 (w:World)(b:Nat)(t:ByteArray)(st en:Nat)(at_:Int)(er:Nat)(h:WS w b t st en at_ er)(hE:Env w)(hb9:9≤b)(ht':t.size≤100000):Calls prog 196 #[.pointer (some ⟨b,0,none⟩)] w (Ykt w b t en er):=by
 have ht:t.size≤1000000:=by omega
 have NX:=Hd (Xf4 w b t st en at_ er h hE hb9 ht);have HE:=Hd hE;clear h hE;go_enter func196,ntmps196;go_wp2_with fail;refine NX.o.mono ?_;rintro e w1 ⟨x,ok,F,s,a,bD,rfl,R,f1,hx,h⟩;have D:w1.cell? ⟨b,1,none⟩=some (.int .i64 (F:Int)):=cell_of_row w1 b 1 _ _ _ R.1;have H1:=Hd R;have F1:=Hd f1;have E1:=Hd (Xbv HE.o hb9 f1);clear NX R f1;rcases h with⟨rfl,hne,hk⟩|⟨rfl,rfl,rfl,hk⟩;·have p:Hid (Yk1 t en er s bD):=Hd (fun k=>by rw[hk];unfold fe;rw[qP hne]);clear hne hk;go_wp2_with fail;go_ret2;exact⟨_,_,F,s,a,bD,rfl,⟨_,_,_,rfl⟩,H1.o,F1.o,p.o⟩
 have HK:=Hd hk;clear hk;by_cases N:x=⟨#[111,112,101,110]⟩
 ·have p:Hid (Yk1 t en 0 s 0):=Hd (fun k=>by rw[HK.o,N,qP (by rfl)]);subst N;go_wp2_with fail;go_ret2;exact⟨_,_,F,s,a,0,rfl,⟨_,_,_,rfl⟩,H1.o,F1.o,p.o⟩
 have aG:bs x≠Xgt:=fun e=>N (Xjx (e.trans (by rfl)));have q1:(x.toList==[111,112,101,110])=false:=by rw[beq_eq_false_iff_ne];intro e;apply N;apply ByteArray.ext;apply Array.toList_inj.1;rw[←ByteArray.toList_eq];exact e
 by_cases hm:x=⟨#[109,111,100,101,114,97,116,101,100]⟩
 ·subst hm;have bN:bs (⟨#[109,111,100,101,114,97,116,101,100]⟩:ByteArray)=Xip:=by rfl
  have aB:Hid (∀k:List Nat→Nat,fe 0 (nxt ((bs t).drop en) fun m T=>if m=Xgt then k T else if m=Xip then nxt T (fun a T=>fe (Xc5 a) (k T)) else 3)=fe 0 (nxt ((bs t).drop s) (fun a T=>fe (Xc5 a) (k T)))):=Hd (fun k=>by rw[HK.o,qN aG,qP bN]);have aY:=Hd (Xf4 w1 b t F s a 0 H1.o E1.o hb9 ht);obtain⟨x0,cE⟩:∃x0:ByteArray,x0=⟨#[109,111,100,101,114,97,116,101,100]⟩:=⟨_,rfl⟩
  clear N aG HK bN D;go_wp2_with fail;refine aY.o.mono ?_;rintro e w2 ⟨x2,cG,c,d,a2,bE,rfl,h2,f2,cF,hh⟩;have H2:=Hd h2;have F2:=Hd (F1.o.trans f2);have E2:=Hd (Xbv E1.o hb9 f2);clear aY h2 f2 q1;rcases hh with⟨rfl,hne,hk⟩|⟨rfl,_,rfl,hk⟩;·have p:Hid (Yk1 t en 0 d bE):=Hd (fun k=>by rw[aB.o,hk];unfold fe;rw[qP hne]);clear hne hk aB;go_wp2_with fail;go_ret2;exact⟨_,_,c,d,a2,bE,rfl,⟨_,_,_,rfl⟩,H2.o,F2.o,p.o⟩
  have p:Hid (Yk1 t en 0 d (Xc5 (bs x2))):=Hd (fun k=>by rw[aB.o,hk];rfl);have SP:=Hd (Xo6 x2 44 w2 (by omega) E2.o);clear hk aB;go_wp2_with fail;refine SP.o.mono ?_;rintro e z ⟨v,f,rfl,bJ,⟨sa,cB,rfl,aQ,aL⟩,bL,bW,aK,aO⟩;have bS:=Hd bJ;have H3:=Hd (H2.o.below aO);have F3:=Hd (F2.o.trans (Fr1.of_below aO));have bX:b<w2.heap.size:=H2.o.lt;have C:b<z.heap.size:=H3.o.lt;have bC:Hid (f≠[]→∃Y off,sa=some ⟨Y,off,none⟩∧Y<z.heap.size∧Y≠b∧∀j (h:j<f.length),z.cell? ⟨Y,off+j,none⟩=some (.string f[j])):=Hd (fun hne=>by obtain⟨Y,off,R,h2,h3⟩:=aL hne;refine⟨Y,off,R,h2,?_,h3⟩;have:=(aK.lt Y (by rw[R];rfl)).1;omega);have GZ:=Hd bL;obtain⟨n,hn⟩:=xq f.length;have HN:=Hd hn;rw[←hn] at bW⊢;obtain⟨i0,bM,bP,bQ,bR⟩:=info_parts Yma;have bZ:w.heap.size≤z.heap.size:=F3.o.size;clear SP bJ aL bL aK aO hn aQ;go_wp2_with fail;go_loopg [6,8,9,10,11,41] n (fun k v s8 s9 s10 s11 i wr=>∃(j:Nat) (a:Int),j≤n∧k=n-j∧i=.int .i64 (j:Int)∧Hid (WS wr b t c d a (Xds (f.take j)))∧Hid (wr.ownsRow z.heap.size 35 16 v j (Xcj (f.take j)))∧Hid (Fr1 b z wr));exact⟨0,a2,by omega,rfl,rfl,Hd (by exact H3.o),Hd (World.ownsRow_nil _ _ _ _),Hd (Fr1.refl _ _)⟩;obtain⟨j,ar,hj,rfl,rfl,I,N,M⟩:=hrel;by_cases hjn:j<n
  ·have V:j<f.length:=by rw[←HN.o];exact hjn
   obtain⟨Y,off,rfl,bU,bT,bI⟩:=bC.o (by intro e;rw[e] at V;simp at V);obtain⟨g,hg⟩:=xq (f[j]);have cC:wr.cell? ⟨Y,off+j,none⟩=some (.string g):=by have h5:=bI j V;rw[←hg] at h5;have:=M.o.other Y bU bT;unfold World.cell? at h5⊢;simp only[this];exact h5
   have bK:g.size≤1000000:=by have:=GZ.o g (by rw[hg];exact zG V);omega
   have aN:f.take (j+1)=f.take j++[g]:=by rw[List.take_succ_eq_append_getElem V,hg]
   have PA:=Hd (Xrt g wr bK);have TB:=Hd (show Xds (f.take (j+1))=fe (Xds (f.take j)) (if(Xfz (bs g)).isNone=true then 3 else 0) by rw[aN,Xm1]);obtain⟨cs,aF⟩:=xq (idA (auZ g));have CL:Hid (Cl 16 cs):=Hd (by rw[aF];exact Xsz (Xht g));have TS:Hid (Xcj (f.take (j+1))=Xcj (f.take j)++cs.toList):=Hd (by rw[aN,Xiy,aF];rfl);have bB:Hid (Calls prog 98 #[.string g] wr fun e w'=>∃(aa er:Int),e=.returned (.tuple #[.agg cs,.int .i64 aa,.int .i64 er])∧((Xfz (bs g)).isNone=true↔er≠0)∧Bw wr w'):=Hd (PA.o.mono (by
    rintro e w' ⟨aa,er,R,h2⟩;rw[aF];unfold auZ
    cases hq:Xfz (bs g) with
    |none=>rw[hq] at R;obtain⟨rfl,h3⟩:=R;exact⟨aa,er,rfl,by simp[h3],h2⟩
    |some id=>rw[hq] at R;subst R;exact⟨aa,0,rfl,by simp,h2⟩))
   have G:Hid (cs.size=16):=Hd CL.o.1;have aZ:=Hd (Xqu CL.o);have BS:Hid (prog.builtSlice 35 1 [((0:Nat),Value.agg cs)]=some cs):=Hd (by have:=Ym0 cs.toList (by simpa using G.o);simpa using this);have FO:Hid (Array.foldl (fun(cs:Array Value) (x:Value×Nat)=>cs.setIfInBounds x.snd x.fst) #[Value.int .u8 0,.int .u8 0,.int .u8 0,.int .u8 0,.int .u8 0,.int .u8 0,.int .u8 0,.int .u8 0,.int .u8 0,.int .u8 0,.int .u8 0,.int .u8 0,.int .u8 0,.int .u8 0,.int .u8 0,.int .u8 0] cs.zipIdx 0 cs.size=cs):=Hd (by have:=Ybd cs.toList (by simpa using G.o);simpa using this);have aT:Hid (Array.foldl (fun(cs:Array Value) (x:Value×Nat)=>cs.setIfInBounds x.snd x.fst) #[Value.int .u8 0,.int .u8 0,.int .u8 0,.int .u8 0,.int .u8 0,.int .u8 0,.int .u8 0,.int .u8 0,.int .u8 0,.int .u8 0,.int .u8 0,.int .u8 0,.int .u8 0,.int .u8 0,.int .u8 0,.int .u8 0] cs.zipIdx 0 16=cs):=Hd (by have:=FO.o;rw[G.o] at this;exact this);clear bI aF hg PA aN;have bY:b<wr.heap.size:=I.o.lt;have cA:z.heap.size≤wr.heap.size:=M.o.size;go_wp2_with fail;refine bB.o.mono ?_;rintro e K ⟨aa,bF,rfl,aJ,aD⟩;have aC:Hid (∀zz:Array Value,zz.size=16→Sv 35 ⟨K.heap.size,0,none⟩ (.agg cs) (K.alloc (.cells zz 35)) (K.alloc (.cells cs 35))):=Hd (fun zz hz=>run_storeVar_new K 35 zz cs (by rw[CL.o.1];exact Xl6) (by rw[hz,CL.o.1]) CL.o.2);have aE:Bw wr (K.alloc (.cells cs 35)):=aD.alloc aD.size _;have P5:=Hd (zN K (.cells cs 35));have H5:=Hd (I.o.below aE);have O5:=Hd (Xep N.o aE);have X:=Hd (M.o.trans (Fr1.of_below aE));have cD:wr.heap.size≤K.heap.size:=aD.size;have D:(K.alloc (.cells cs 35)).cell? ⟨b,1,none⟩=some (.int .i64 (c:Int)):=cell_of_row _ b 1 _ _ _ H5.o.1;have FL:=Hd (Xca _ b t c d ar _ H5.o (c:Int) 3);have aH:=Hd aJ;clear aD aE bB aJ I N M;by_cases her:bF=0
   ·subst her;have aM:Hid (Xds (f.take (j+1))=Xds (f.take j)):=Hd (by rw[TB.o,qN (fun h=>aH.o.1 h rfl),Xqf]);go_upto_region 17 with((with_reducible refine Xaa 35 rfl _ _ rfl ?_);refine⟨_,_,_,rfl,rfl,aC.o _ rfl,?_⟩)
    obtain⟨l,W⟩:=xq (K.alloc (.cells cs 35));have u:Hid (Fr1 b (K.alloc (.cells cs 35)) l):=Hd (by rw[W];exact Fr1.refl _ _);obtain⟨a6,bG⟩:=xq ar;have P:Hid (WS l b t c d a6 (Xds (f.take (j+1)))):=Hd (by rw[aM.o,W,bG];exact H5.o);have P6:Hid (l.heap[K.heap.size]?=some (.cells cs 35 (0,0))):=Hd (by rw[W];exact P5.o);rw[←W];have LD:=Hd (Xap l K.heap.size 16 _ _ cs _ _ P6.o rfl underlying35 Xl6 CL.o.1);have O6:=Hd (Xnt O5.o u.o C);have E:z.heap.size≤l.heap.size:=by have:=u.o.size;simp at this;omega
    have O:Hid (∀(o:Obj) (J:World),(l.alloc o).grownBy J u6.ownBlock→WS J b t c d a6 (Xds (f.take (j+1)))∧Fr1 b z J):=Hd (fun o J hg=>by have B1:Below z.heap.size l (l.alloc o):=(zR _ _).alloc E _;have B:=Below.grown B1 hg (by simp;omega) (fun k hk=>(O6.o.lt k hk).1);exact⟨⟨(B.block b C).trans P.o.1,P.o.2⟩,⟨B.os.trans (X.o.trans u.o).os,B.tape.trans (X.o.trans u.o).tape,B.output.trans (X.o.trans u.o).output,Nat.le_trans E B.size,fun k hk hne=>(B.block k hk).trans ((X.o.trans u.o).other k hk hne)⟩⟩);clear W bG FL D aC P5 H5;have bV:cs.size=16:=G.o;go_wp2_with (first
     |((with_reducible refine Xab 35 rfl _ rfl ?_);refine⟨_,_,rfl,LD.o,?_⟩)
     |((with_reducible refine wpList_buildSliceTo rfl 137 35 1 _ rfl l.heap.size rfl _ rfl underlying137 cs BS.o ?_))
     |(at_builtin;refine wpList_append_own _ rfl _ _ 137 rfl z.heap.size 35 i0 (.agg (idA Xel)) 16 16 underlying137 bM bP bQ bR rfl (by decide) _ _ _ rfl (O6.o.alloc _) ⟨l.heap.size,0,none⟩ 1 1 cs.toList rfl (by simpa using G.o) (World.news_of_block (cs:=cs) (t:=35) (fr:=(0,0)) (by(first|rw[aT.o]|rw[FO.o]);exact zN l _)) aZ.o (by unfold maxLen;omega) (by omega) (by simp;omega) ?_;intro v' J r q _))
    have O8:Hid (J.ownsRow z.heap.size 35 16 v' (j+1) (Xcj (f.take (j+1)))):=Hd (by rw[TS.o];exact r);have F8:=Hd (O.o _ J q);clear r q;go_wp2_with fail;go_roundg (n-(j+1));exact⟨j+1,a6,by omega,rfl,by go_num,Hd F8.o.1,O8,Hd F8.o.2⟩;omega
   have q0:(bF !=0)=true:=Xaq her;have aM:Hid (Xds (f.take (j+1))=fe (Xds (f.take j)) 3):=Hd (by rw[TB.o,qP (aH.o.2 her)]);clear her;go_wp2_with ((with_reducible refine Xaa 35 rfl _ _ rfl ?_);refine⟨_,_,_,rfl,rfl,aC.o _ rfl,?_⟩)
   refine FL.o.mono ?_;rintro e l ⟨⟨v,rfl⟩,⟨a6,Z⟩,f6⟩;have P:Hid (WS l b t c d a6 (Xds (f.take (j+1)))):=Hd (by rw[aM.o];exact Z);have u:=Hd f6;have P6:=Hd ((f6.other K.heap.size (by simp) (by omega)).trans P5.o);have LD:=Hd (Xap l K.heap.size 16 _ _ cs _ _ P6.o rfl underlying35 Xl6 CL.o.1);have O6:=Hd (Xnt O5.o u.o C);have E:z.heap.size≤l.heap.size:=by have:=u.o.size;simp at this;omega
   have O:Hid (∀(o:Obj) (J:World),(l.alloc o).grownBy J u6.ownBlock→WS J b t c d a6 (Xds (f.take (j+1)))∧Fr1 b z J):=Hd (fun o J hg=>by have B1:Below z.heap.size l (l.alloc o):=(zR _ _).alloc E _;have B:=Below.grown B1 hg (by simp;omega) (fun k hk=>(O6.o.lt k hk).1);exact⟨⟨(B.block b C).trans P.o.1,P.o.2⟩,⟨B.os.trans (X.o.trans u.o).os,B.tape.trans (X.o.trans u.o).tape,B.output.trans (X.o.trans u.o).output,Nat.le_trans E B.size,fun k hk hne=>(B.block k hk).trans ((X.o.trans u.o).other k hk hne)⟩⟩);clear Z f6 FL D aC P5 H5;have bV:cs.size=16:=G.o;go_wp2_with (first
    |((with_reducible refine Xab 35 rfl _ rfl ?_);refine⟨_,_,rfl,LD.o,?_⟩)
    |((with_reducible refine wpList_buildSliceTo rfl 137 35 1 _ rfl l.heap.size rfl _ rfl underlying137 cs BS.o ?_))
    |(at_builtin;refine wpList_append_own _ rfl _ _ 137 rfl z.heap.size 35 i0 (.agg (idA Xel)) 16 16 underlying137 bM bP bQ bR rfl (by decide) _ _ _ rfl (O6.o.alloc _) ⟨l.heap.size,0,none⟩ 1 1 cs.toList rfl (by simpa using G.o) (World.news_of_block (cs:=cs) (t:=35) (fr:=(0,0)) (by(first|rw[aT.o]|rw[FO.o]);exact zN l _)) aZ.o (by unfold maxLen;omega) (by omega) (by simp;omega) ?_;intro v' J r q _))
   have O8:Hid (J.ownsRow z.heap.size 35 16 v' (j+1) (Xcj (f.take (j+1)))):=Hd (by rw[TS.o];exact r);have F8:=Hd (O.o _ J q);clear r q;go_wp2_with fail;go_roundg (n-(j+1));exact⟨j+1,a6,by omega,rfl,by go_num,Hd F8.o.1,O8,Hd F8.o.2⟩;omega
  obtain rfl:j=n:=by omega
  have aI:f.take j=f:=List.take_of_length_le (by rw[HN.o];exact zL _);rw[aI] at I N;have L:Hid (Xc5 (bs x2)=fe (fe (Xds f) (eIf (decide (8<f.length)) 9)) (eIf (!Xmp (f.map auZ)) 30)):=Hd (Yez bS.o);obtain⟨va,vc,rfl,bH⟩:=Xzz HN.o N.o;have aA:=Hd bH;have aR:Hid (∀y∈f.map auZ,AuOk y):=Hd (fun y hy=>by obtain⟨g,_,rfl⟩:=List.mem_map.1 hy;exact Xht g);have aX:Hid ((f.map auZ).length=j):=Hd (by rw[List.length_map,HN.o]);rw[←HN.o] at L;have aW:=Hd I.o;have aV:=Hd M.o;have D:wr.cell? ⟨b,1,none⟩=some (.int .i64 (c:Int)):=cell_of_row wr b 1 _ _ _ I.o.1;have bA:Hid (∀w5,Fr1 b wr w5→Yky w5 va (f.map auZ)):=Hd (fun w5 f5=>by obtain⟨cH,cI,e1,e2⟩:=Xzz HN.o (Xnt N.o f5 C);cases e1;exact e2);clear bH aI I N M bC GZ;by_cases h8:8<j
  ·have aS:=Hd (Xca wr b t c d ar _ aW.o (c:Int) 9);have Q:Hid (Xc5 (bs x2)=fe (fe (Xds f) 9) (eIf (!Xmp (f.map auZ)) 30)):=Hd (by rw[L.o,zT h8];rfl);clear L;have L:=Q;clear Q;go_wp2_with fail;refine aS.o.mono ?_;rintro e w5 ⟨⟨v5,rfl⟩,⟨a5,h5⟩,f5⟩;have aU:Hid (Yky w5 va (f.map auZ)):=Hd (bA.o w5 f5);have H5:=Hd h5;have X:=Hd (aV.o.trans f5);clear aS h5 f5 D aA;have aA:=aU;have IC:=Hd (Yav w5 va vc (f.map auZ) (by rw[List.length_map,←HN.o];omega) aA.o aR.o);rw[aX.o] at IC;obtain⟨ib,U⟩:=xq (Xmp (f.map auZ));rw[←U] at IC L;clear U;go_wp2_with fail;refine IC.o.mono ?_;rintro e l ⟨rfl,S⟩;have H:=Dr.below S;have Z:=H5.o.below H;have u:=Hd (X.o.trans (Fr1.of_below H));have P:=Hd Z;have aP:l.cell? ⟨b,1,none⟩=some (.int .i64 (c:Int)):=cell_of_row l b 1 _ _ _ Z.1;clear S H Z IC;cases ib;·have A:=Hd (Xca l b t c d _ _ P.o (c:Int) 30);go_wp2_with fail;refine A.o.mono ?_;rintro e w7 ⟨⟨v,rfl⟩,⟨a7,h7⟩,f7⟩;have H7:Hid (WS w7 b t c d a7 (Xc5 (bs x2))):=Hd (by rw[L.o];exact h7);have F7:=Hd (u.o.trans f7);clear A h7 f7 aP;go_wp2_with fail;go_ret2;exact⟨_,_,c,d,a7,_,rfl,⟨_,_,_,rfl⟩,H7.o,F3.o.trans F7.o,p.o⟩
   have H7:Hid (WS l b t c d _ (Xc5 (bs x2))):=Hd (by rw[L.o];show WS l b t c d _ (fe _ 0);rw[Xqf];exact P.o);go_wp2_with fail;go_ret2;exact⟨_,_,c,d,_,_,rfl,⟨_,_,_,rfl⟩,H7.o,F3.o.trans u.o,p.o⟩
  have Q:Hid (Xc5 (bs x2)=fe (Xds f) (eIf (!Xmp (f.map auZ)) 30)):=Hd (by rw[L.o,zW h8];show fe (fe _ 0) _=_;rw[Xqf]);clear L D;have L:=Q;clear Q;have IC:=Hd (Yav wr va vc (f.map auZ) (by rw[List.length_map,←HN.o];omega) aA.o aR.o);rw[aX.o] at IC;obtain⟨ib,U⟩:=xq (Xmp (f.map auZ));rw[←U] at IC L;clear U;go_wp2_with fail;refine IC.o.mono ?_;rintro e l ⟨rfl,S⟩;have H:=Dr.below S;have Z:=aW.o.below H;have u:=Hd (aV.o.trans (Fr1.of_below H));have P:=Hd Z;have aP:l.cell? ⟨b,1,none⟩=some (.int .i64 (c:Int)):=cell_of_row l b 1 _ _ _ Z.1;clear S H Z IC;cases ib;·have A:=Hd (Xca l b t c d _ _ P.o (c:Int) 30);go_wp2_with fail;refine A.o.mono ?_;rintro e w7 ⟨⟨v,rfl⟩,⟨a7,h7⟩,f7⟩;have H7:Hid (WS w7 b t c d a7 (Xc5 (bs x2))):=Hd (by rw[L.o];exact h7);have F7:=Hd (u.o.trans f7);clear A h7 f7 aP;go_wp2_with fail;go_ret2;exact⟨_,_,c,d,a7,_,rfl,⟨_,_,_,rfl⟩,H7.o,F3.o.trans F7.o,p.o⟩
  have H7:Hid (WS l b t c d _ (Xc5 (bs x2))):=Hd (by rw[L.o];show WS l b t c d _ (fe _ 0);rw[Xqf];exact P.o);go_wp2_with fail;go_ret2;exact⟨_,_,c,d,_,_,rfl,⟨_,_,_,rfl⟩,H7.o,F3.o.trans u.o,p.o⟩
 have bO:bs x≠Xip:=fun e=>hm (Xjx (e.trans (by rfl)));have q2:(x.toList==[109,111,100,101,114,97,116,101,100])=false:=by rw[beq_eq_false_iff_ne];intro e;apply hm;apply ByteArray.ext;apply Array.toList_inj.1;rw[←ByteArray.toList_eq];exact e
 have p:Hid (Yk1 t en 0 s 3):=Hd (fun k=>by rw[HK.o,qN aG,qN bO];rfl);have FL:=Hd (Xca w1 b t F s a 0 H1.o (F:Int) 3);clear N aG hm bO;go_wp2_with fail;refine FL.o.mono ?_;rintro e z ⟨⟨v,rfl⟩,⟨a',h3⟩,f3⟩;have H3:Hid (WS z b t F s a' 3):=Hd h3;have F3:=Hd (F1.o.trans f3);clear FL h3 f3 D;go_wp2_with fail;go_ret2;exact⟨_,_,F,s,a',3,rfl,⟨_,_,_,rfl⟩,H3.o,F3.o,p.o⟩
theorem Yba (w:World)(b:Nat)(t:ByteArray)(st en:Nat)(at_:Int)(er:Nat)(h:WS w b t st en at_ er)(hE:Env w)(hb9:9≤b)(ht2:t.size≤100000):Calls prog 194 #[.pointer (some ⟨b,0,none⟩)] w (Xcw w b t en er (fun T=>nxt T fun x T=>fe (Xih x) ((fun T=>nxt T fun x T=>fe ((Xfe 0 1000000) x) ((fun T=>nxt T fun m T=>if m=Xgt then Xd3 T else if m=Xip then nxt T (fun a T=>fe (Xc5 a) (Xd3 T)) else 3) T)) T))):=by
 have ht:t.size≤1000000:=by omega
 obtain⟨l,A⟩:=xq (Xlx 0 Xhw);obtain⟨B,I⟩:=xq (Xlx 3 Xhw);have aR:Hid (Cl 56 l):=Hd (by rw[A];exact Xd1 0 _ (by simp[Xhw]) Xek);have p:Hid (Cl 56 B):=Hd (by rw[I];exact Xd1 3 _ (by simp[Xhw]) Xek);have BK:Hid (∀w,(Instr.build 139 #[(0,.int .i64 3)]).run prog w=.ok (.agg B) w):=Hd (fun w=>by rw[I];exact Xgd w 3);have q:=h.lt;have H:Hid (∀zz:Array Value,zz.size=56→Sv 139 ⟨w.heap.size+1,0,none⟩ (.agg B) ((w.alloc (.cells l 139)).alloc (.cells zz 139)) ((w.alloc (.cells l 139)).alloc (.cells B 139))):=Hd (fun zz hz=>by have:=run_storeVar_new (P:=prog) (w.alloc (.cells l 139)) 139 zz B (by rw[p.o.1];exact Xa3) (by rw[hz,p.o.1]) p.o.2;rwa [World.size_alloc] at this);obtain⟨w0,k⟩:=xq ((w.alloc (.cells l 139)).alloc (.cells B 139));have bA:Bw w (w.alloc (.cells l 139)):=(zR _ w).alloc (zL _) _;have b0:Bw w w0:=by rw[k];exact bA.alloc bA.size _
 have h0:=h.below b0;have E0:=hE.on b0;have F0:Hid (Fr1 b w w0):=Hd (Fr1.of_below b0);have Z0:Hid (w0.heap[w.heap.size]?=some (.cells l 139 (0,0))):=Hd (by rw[k];exact(((zR _ (w.alloc (.cells l 139))).alloc (zL _) _).block w.heap.size (by simp)).trans (zN w _));have aC:MB w0 (w.heap.size+1):=⟨B,by rw[k];have:=zN (w.alloc (.cells l 139)) (.cells B 139);rwa [World.size_alloc] at this,p.o⟩
 have M0:=Hd aC;rw[A] at H;have HW:Hid (w0=(w.alloc (.cells (Xlx 0 Xhw) 139)).alloc (.cells B 139)):=Hd (by rw[k,A]);have H0:=Hd h0;have L:=Hd E0;have n:=Hd hb9;have HT:=Hd ht;clear h hE A I k bA b0 h0 E0 aC;have C1:=Hd (Xky w0 b t st en at_ er H0.o L.o hb9 ht);go_enter func194,ntmps194;go_wp2_with (first
  |((with_reducible refine Xdo 139 rfl _ rfl ?_);refine⟨_,_,rfl,BK.o _,?_⟩)
  |((with_reducible refine Xaa 139 rfl _ _ rfl ?_);refine⟨_,_,_,rfl,rfl,H.o _ rfl,?_⟩))
 have K:Hid (∀wq,w0=wq→Calls prog 193 #[.pointer (some ⟨b,0,none⟩)] wq (Xlz w0 b t en er Xih fun v=>∃s,v=.string s∧s.size≤t.size)):=Hd (by rintro wq rfl;exact C1.o);refine(K.o _ HW.o).mono ?_;clear C1 K HW H BK;rintro e v1 ⟨v,bF,aT,a1,aX,rfl,⟨s1,rfl,bL⟩,h1,f1,C⟩;have U:=Hd (M0.o.fr f1 (by omega));have Y:=Hd ((f1.other w.heap.size (zY Z0.o) (by omega)).trans Z0.o);have aI:=Hd (F0.o.trans f1);have aE:=Hd (Xbv L.o hb9 f1);have O:=Hd C;obtain⟨u1,bO,bS⟩:=U.o.cell (j:=33) (by omega);obtain⟨y1,r⟩:=xq (v1.setCell ⟨w.heap.size+1,33,none⟩ (.string s1));have M1:Hid (MB y1 (w.heap.size+1)):=Hd (by rw[r];exact U.o.setCell 33 rfl);have d:Fr1 (w.heap.size+1) v1 y1:=by rw[r];exact Fr1.setC _
 have H1:=Hd (h1.fr d (by omega));have F1:=Hd (aI.o.new d (by omega));have Z1:=Hd ((d.other w.heap.size (zY Y.o) (by omega)).trans Y.o);have M:=Hd (Xbv aE.o (by have:=n.o;have:=q;omega) d);have aN:=Hd r;clear h1 f1 C d r;have C2:=Hd (Xia y1 b t bF aT a1 aX H1.o M.o hb9 ht 0 1000000 (by omega) (by omega));go_wp2_with fail;rw[←aN.o];refine C2.o.mono ?_;rintro e v2 ⟨v,bG,aU,a2,aY,rfl,⟨n2,rfl⟩,h2,f2,D⟩;have V:=Hd (M1.o.fr f2 (by omega));have Z:=Hd ((f2.other w.heap.size (zY Z1.o) (by omega)).trans Z1.o);have aJ:=Hd (F1.o.trans f2);have aF:=Hd (Xbv M.o hb9 f2);have Q:=Hd D;obtain⟨u2,bP,bT⟩:=V.o.cell (j:=34) (by omega);obtain⟨y2,u⟩:=xq (v2.setCell ⟨w.heap.size+1,34,none⟩ (.int .i64 n2));have M2:Hid (MB y2 (w.heap.size+1)):=Hd (by rw[u];exact V.o.setCell 34 rfl);have f:Fr1 (w.heap.size+1) v2 y2:=by rw[u];exact Fr1.setC _
 have H2:=Hd (h2.fr f (by omega));have F2:=Hd (aJ.o.new f (by omega));have Z2:=Hd ((f.other w.heap.size (zY Z.o) (by omega)).trans Z.o);have N:=Hd (Xbv aF.o (by have:=n.o;have:=q;omega) f);have aO:=Hd u;clear h2 f2 D f u;have C3:=Hd (Ye0 y2 b t bG aU a2 aY H2.o N.o hb9 ht2);go_wp2_with fail;rw[←aO.o];refine C3.o.mono ?_;rintro e v3 ⟨aS,v,bH,aV,a3,aZ,rfl,⟨bC,bE,bD,rfl⟩,h3,f3,E⟩;have G:=Hd (M2.o.fr f3 (by omega));have aA:=Hd ((f3.other w.heap.size (zY Z2.o) (by omega)).trans Z2.o);have aK:=Hd (F2.o.trans f3);have aG:=Hd (Xbv N.o hb9 f3);have R:=Hd E;obtain⟨u3,bQ,bU⟩:=G.o.cell (j:=35) (by omega);obtain⟨bW,bJ,bK⟩:=G.o.cell (j:=36) (by omega);obtain⟨y3,y⟩:=xq ((v3.setCell ⟨w.heap.size+1,35,none⟩ (.bool aS)).setCell ⟨w.heap.size+1,36,none⟩ (.slice bC bE bD));have M3:Hid (MB y3 (w.heap.size+1)):=Hd (by rw[y];exact(G.o.setCell 35 rfl).setCell 36 rfl);have g:Fr1 (w.heap.size+1) v3 y3:=by rw[y];exact(Fr1.setC _).trans (Fr1.setC _)
 have H3:=Hd (h3.fr g (by omega));have F3:=Hd (aK.o.new g (by omega));have Z3:=Hd ((g.other w.heap.size (zY aA.o) (by omega)).trans aA.o);have aM:=Hd (Xbv aG.o (by have:=n.o;have:=q;omega) g);have aP:=Hd y;clear h3 f3 E g y;have C4:=Hd (Yd8 y3 b t bH aV a3 aZ H3.o hb9 ht);go_wp2_with fail;rw[←aP.o];refine C4.o.mono ?_;rintro e v4 ⟨s4,bI,aW,a4,bB,rfl,bM,h4,f4,F⟩;have W:=Hd (M3.o.fr f4 (by omega));have aB:=Hd ((f4.other w.heap.size (zY Z3.o) (by omega)).trans Z3.o);have aL:=Hd (F3.o.trans f4);have aH:=Hd (Xbv aM.o hb9 f4);have S:=Hd F;obtain⟨u4,bR,bV⟩:=W.o.cell (j:=37) (by omega);obtain⟨J,z⟩:=xq (v4.setCell ⟨w.heap.size+1,37,none⟩ (.string s4));have M4:Hid (MB J (w.heap.size+1)):=Hd (by rw[z];exact W.o.setCell 37 rfl);have i:Fr1 (w.heap.size+1) v4 J:=by rw[z];exact Fr1.setC _
 have H4:=Hd (h4.fr i (by omega));have F4:=Hd (aL.o.new i (by omega));have Z4:=Hd ((i.other w.heap.size (zY aB.o) (by omega)).trans aB.o);have bN:=Hd (Xbv aH.o (by have:=n.o;have:=q;omega) i);have aQ:=Hd z;clear h4 f4 F i z;obtain⟨cs,hp,c⟩:=M4.o;have LD:=Hd (Xap J (w.heap.size+1) 56 _ _ cs _ _ hp rfl underlying139 Xa3 c.1);have ST:=Hd (run_storeVar_row (P:=prog) J w.heap.size _ 139 l cs Z4.o (by rw[c.1];exact Xa3) (by rw[c.1,aR.o.1]) c.2);have W2:=Hd (setRow_heap J w.heap.size l cs _ _ Z4.o);have aD:Hid (cs.size=56):=Hd c.1;have X:Hid (Xcw w b t en er (fun T=>nxt T fun x T=>fe (Xih x) ((fun T=>nxt T fun x T=>fe ((Xfe 0 1000000) x) ((fun T=>nxt T fun m T=>if m=Xgt then Xd3 T else if m=Xip then nxt T (fun a T=>fe (Xc5 a) (Xd3 T)) else 3) T)) T)) (.returned (.agg cs)) (J.setRow w.heap.size cs)):=Hd ⟨cs,bI,aW,a4,bB,rfl,c,H4.o.row (by omega) cs,F4.o.row (zL _) cs,((O.o (fun T=>nxt T fun x T=>fe ((Xfe 0 1000000) x) ((fun T=>nxt T fun m T=>if m=Xgt then Xd3 T else if m=Xip then nxt T (fun a T=>fe (Xc5 a) (Xd3 T)) else 3) T))).trans ((Q.o (fun T=>nxt T fun m T=>if m=Xgt then Xd3 T else if m=Xip then nxt T (fun a T=>fe (Xc5 a) (Xd3 T)) else 3)).trans ((R.o Xd3).trans S.o.symm))).symm⟩;clear hp c;go_upto_region 6 with fail;rw[←aQ.o];refine wp_region_list ?_;simp only[];refine Xab 139 rfl _ rfl ⟨_,_,rfl,LD.o,?_⟩;go_wp2_with ((with_reducible refine Xaa 139 rfl _ _ rfl ?_);refine⟨_,_,_,rfl,rfl,ST.o,?_⟩)
 exact zP (results_cell_row results194 _ _ w.heap.size _ _ _ _ rfl W2.o underlying139 rfl (by rw[aD.o];exact Xa3)) rfl X.o
def Xoz (listed:Array Bool):Nat:=listed.toList.countP (fun b=>!b)
theorem Xl1 {listed:Array Bool}{i:Nat}(hi:listed.getD i true=false):Xoz (listed.setIfInBounds i true)+1=Xoz listed:=by
 have a:i<listed.size:=by
  rcases Nat.lt_or_ge i listed.size with h|h;·exact h
  simp[Array.getD,Nat.not_lt.2 h] at hi
 have hv:listed.toList[i]'(by simpa using a)=false:=by simp[Array.getD,a] at hi;simpa using hi
 unfold Xoz;have c:0<listed.toList.countP (fun b=>!b):=List.countP_pos_iff.2 ⟨false,by rw[←hv];exact zG _,rfl⟩;rw[Array.toList_setIfInBounds,List.countP_set (by simpa using a)];simp only[hv,Bool.not_false,Bool.not_true,if_true,Bool.false_eq_true,if_false];omega
theorem Xow {P:Program}{md:Region.Mode}{ops:Array Oper}{Q:Exit→Act→World→Prop}(I:Array Bool→Act→World→Prop) (hstep:∀listed a w i,I listed a w→i∈Region.ready md ops listed→listed.getD i true=false∧wpOp P ops Q i (fun a' w'=>I (listed.setIfInBounds i true) a' w') a w) (hend:∀listed a w,I listed a w→Region.ready md ops listed=[]→Q .normal a w):∀(fuel:Nat) (listed:Array Bool) (a:Act) (w:World),I listed a w→Xoz listed≤fuel→wpAny P md ops Q fuel listed a w
 |0,listed,a,w,h,hu=>by
  have b:Region.ready md ops listed=[]:=by
   cases hq:Region.ready md ops listed with
   |nil=>rfl
   |cons i t=>have:=Xl1 (hstep listed a w i h (by rw[hq];exact List.mem_cons_self ..)).1;omega
  exact⟨b,hend listed a w h b⟩
 |fuel+1,listed,a,w,h,hu=>⟨hend listed a w h,fun i hi=>by obtain⟨c,d⟩:=hstep listed a w i h hi;have:=Xl1 c;exact wpOp_mono (fun a' w' h'=>Xow I hstep hend fuel _ a' w' h' (by omega)) d⟩
def Ynj (es:Array MapEntry)(l:List (ByteArray×Value)):Prop:=es.toList.map (fun e=>(e.key,e.val))=l.map fun p=>(Value.string p.1,p.2)
def MF (w:World)(b:Nat)(l:List (ByteArray×Value)):Prop:=∃es cl,w.heap[b]?=some (.map es cl)∧∃l',Ynj es l'∧l'.Perm l
theorem Xse (k:ByteArray):∀(l:List (ByteArray×Value)) (es:List MapEntry) (i:Nat),es.map (fun e=>(e.key,e.val))=l.map (fun p=>(Value.string p.1,p.2))→(∀p∈l,(k==p.1)=false)→Instr.findNow .string (.string k) es i=some none
 |[],[],i,_,_=>rfl
 |p::l,e::es,i,h,hn=>by simp only[List.map_cons,List.cons.injEq,Prod.mk.injEq] at h;have:=Xse k l es (i+1) h.2 (fun q hq=>hn q (List.mem_cons_of_mem _ hq));simp only[Instr.findNow,h.1.1,Instr.sameNow,hn p (List.mem_cons_self ..),this]
 |[],_::_,_,h,_=>by simp at h
 |_::_,[],_,h,_=>by simp at h
theorem Xu0 (k:ByteArray)(v:Value)(hk:(k==k)=true):∀(l:List (ByteArray×Value)) (es:List MapEntry) (i:Nat),es.map (fun e=>(e.key,e.val))=l.map (fun p=>(Value.string p.1,p.2))→(k,v)∈l→(∀p∈l,(k==p.1)=true→p.2=v)→∃j,Instr.findNow .string (.string k) es i=some (some (j,v))
 |p::l,e::es,i,h,hm,hu=>by
  simp only[List.map_cons,List.cons.injEq,Prod.mk.injEq] at h
  cases hq:(k==p.1) with
  |true=>refine⟨i,?_⟩;simp only[Instr.findNow,h.1.1,Instr.sameNow,hq];rw[h.1.2,hu p (List.mem_cons_self ..) hq]
  |false=>
   have a:(k,v)∈l:=by
    rcases List.mem_cons.1 hm with rfl|h;·rw[hk] at hq;cases hq
    exact h
   obtain⟨j,b⟩:=Xu0 k v hk l es (i+1) h.2 a (fun q hq=>hu q (List.mem_cons_of_mem _ hq));refine⟨j,?_⟩;simp only[Instr.findNow,h.1.1,Instr.sameNow,hq,b]
 |[],_,_,_,hm,_=>by cases hm
 |_::_,[],_,h,_,_=>by simp at h
theorem Yi9 {w:World}{b:Nat}{l:List (ByteArray×Value)}(h:MF w b l)(k:ByteArray)(v:Value)(hk:(k==k)=true)(hm:(k,v)∈l)(hu:∀p∈l,(k==p.1)=true→p.2=v):(Instr.lookup 203 (.map (some b)) (.string k) true).run prog w=.ok (.tuple #[v,.bool true]) w:=by obtain⟨a,m,d,i,f,c⟩:=h;have e:(Instr.checkKey a.isEmpty 10000 9 (.string k)).run prog w=.ok () w:=MapKept.run_checkKey (k:=.string k) underlying9 (by simp[MapKept.IsKey]) _ 9999;obtain⟨j,g⟩:=Xu0 k v hk i a.toList 0 f (c.mem_iff.2 hm) (fun p hp'=>hu p (c.mem_iff.1 hp'));simp[Instr.lookup,run_underlying underlying203,MapKept.run_getObj_map d,e,MapKept.run_findKey underlying9 g,Result.andThen]
theorem Yi8 {w:World}{b:Nat}{l:List (ByteArray×Value)}(h:MF w b l)(k:ByteArray)(hn:∀p∈l,(k==p.1)=false):(Instr.lookup 203 (.map (some b)) (.string k) true).run prog w=.ok (.tuple #[.nilFunc,.bool false]) w:=by obtain⟨a,j,c,i,e,g⟩:=h;have d:(Instr.checkKey a.isEmpty 10000 9 (.string k)).run prog w=.ok () w:=MapKept.run_checkKey (k:=.string k) underlying9 (by simp[MapKept.IsKey]) _ 9999;have f:=Xse k i a.toList 0 e (fun p hp'=>hn p (g.mem_iff.1 hp'));simp[Instr.lookup,run_underlying underlying203,MapKept.run_getObj_map c,d,MapKept.run_findKey underlying9 f,Result.andThen]
theorem Yju {es:Array MapEntry}{l:List (ByteArray×Value)}(h:Ynj es l)(k:ByteArray)(v:Value)(n:Nat):Ynj (es.push ⟨.string k,v,n⟩) (l++[(k,v)]):=by unfold Ynj at h⊢;rw[Array.toList_push,List.map_append,List.map_append,h];rfl
theorem Yly {w:World}{b:Nat}{l:List (ByteArray×Value)}(h:MF w b l)(k:ByteArray)(v:Value)(hn:∀p∈l,(k==p.1)=false):∃w',(Instr.mapUpdate 203 (.map (some b)) (.string k) v).run prog w=.ok () w'∧MF w' b ((k,v)::l)∧Fr1 b w w':=by
 obtain⟨c,a,d,j,g,i⟩:=h;have m:(Instr.checkKey false 10000 9 (.string k)).run prog w=.ok () w:=MapKept.run_checkKey (k:=.string k) underlying9 (by simp[MapKept.IsKey]) false 9999;have n:=Xse k j c.toList 0 g (fun p hp'=>hn p (i.mem_iff.1 hp'));refine⟨{w with heap:=w.heap.setIfInBounds b (.map (c.push ⟨.string k,v,a⟩) (a+1))},?_,⟨c.push ⟨.string k,v,a⟩,a+1,?_,j++[(k,v)],Yju g k v a,?_⟩,⟨rfl,rfl,rfl,?_,?_⟩⟩;·simp[Instr.mapUpdate,run_underlying underlying203,MapKept.run_getObj_map d,m,MapKept.run_findKey underlying9 n,MapKept.run_setObj_map _ d,Result.andThen]
 ·have e:b<w.heap.size:=zY d;simp[e]
 ·exact(List.perm_append_singleton _ _).trans (i.cons _)
 ·simp
 intro q o f;simp[Ne.symm f]
end Go.Proofs.YtjolcnopipbkhaaGreatDoor
