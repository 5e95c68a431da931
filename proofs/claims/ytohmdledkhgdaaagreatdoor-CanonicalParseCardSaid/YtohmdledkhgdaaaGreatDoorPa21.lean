/- slices.Clone at lists of texts and of identities; slices.Equal at lists of texts (printed by gen_clone.py). -/
import Derived.Test.YtohmdledkhgdaaaGreatDoorPa20
import Derived.Lib.SliceRun
namespace Go.Proofs.YtohmdledkhgdaaaGreatDoor
open Go.RowKit
set_option linter.unusedVariables false
set_option maxRecDepth 100000
def Xbv (l:List (List Nat)):List Value:=l.flatMap fun x=>x.map U
theorem Xkb:∀(l:List (List Nat)),(∀x∈l,IdOk x)→(Xbv l).length=l.length*32
 |[],_=>rfl
 |x::l,h=>by
  show(x.map U++Xbv l).length=_
  rw[List.length_append,List.length_map,(h x (List.mem_cons_self ..)).len,Xkb l (fun y hy=>h y (List.mem_cons_of_mem _ hy)),List.length_cons]
  omega
theorem Xfu:∀(l:List (List Nat)) (q k:Nat) (hq:q<l.length),(∀x∈l,IdOk x)→k<32→(Xbv l)[q*32+k]?=((l[q]).map U)[k]?
 |x::l,0,k,_,h,hk=>by
  show(x.map U++Xbv l)[0*32+k]?=_
  rw[List.getElem?_append_left (by rw[List.length_map,(h x (List.mem_cons_self ..)).len];omega),Nat.zero_mul,Nat.zero_add]
  rfl
 |x::l,q+1,k,hq,h,hk=>by
  show(x.map U++Xbv l)[(q+1)*32+k]?=_
  rw[List.getElem?_append_right (by rw[List.length_map,(h x (List.mem_cons_self ..)).len];omega),List.length_map,(h x (List.mem_cons_self ..)).len,show(q+1)*32+k-32=q*32+k by omega]
  exact Xfu l q k (by simpa using hq) (fun y hy=>h y (List.mem_cons_of_mem _ hy)) hk
theorem Ya5 {w:World} {base:Nat} {v:Value} {l:List (List Nat)} (ho:∀x∈l,IdOk x) (h:w.ownsRow base 26 32 v l.length (Xbv l)):IRow w v l:=by
 rcases h.2 with⟨rfl,h0⟩|⟨g,cap,cur,rfl,hb,hg,hc,_,hs,ht⟩
 ·exact⟨none,0,by rw[h0],by rw[h0];exact Nat.le_refl _,fun hne=>absurd (List.length_eq_zero_iff.1 h0) hne⟩
 ·refine⟨some ⟨g,0,none⟩,cap,rfl,hc,fun _=>⟨g,0,rfl,lt_of_block hg,fun j hj k u hu=>?_⟩⟩
  have hk:k<32:=by
   have:=(Array.getElem?_eq_some_iff.1 hu).1
   rw[Xag,(ho _ (List.getElem_mem hj)).len] at this
   exact this
  rw[Nat.zero_add,cell_of_row w g _ _ _ _ hg]
  have e1:(cur.toList.take (l.length*32))[j*32+k]?=some u:=by
   rw[ht,Xfu l j k hj ho hk]
   unfold idA at hu
   rw[List.getElem?_toArray] at hu
   exact hu
  rw[List.getElem?_take,if_pos (by omega)] at e1
  simpa using e1
theorem IRow.cells {w:World} {b off n c:Nat} {l:List (List Nat)} (ho:∀x∈l,IdOk x) (h:∀j (h:j<l.length) k u,(idA l[j])[k]?=some u→w.cell? ⟨b,off+j*32+k,none⟩=some u):∀j u,(Xbv l)[j]?=some u→w.cell? ((⟨b,off,none⟩:Addr).add j)=some u:=by
 intro j u hu
 have hj:j<l.length*32:=by rw[←Xkb l ho];exact(List.getElem?_eq_some_iff.1 hu).1
 obtain⟨q,hq⟩:∃q,q=j/32:=⟨_,rfl⟩
 obtain⟨k,hk⟩:∃k,k=j%32:=⟨_,rfl⟩
 have e:j=q*32+k:=by omega
 have hql:q<l.length:=by omega
 rw[e,Xfu l q k hql ho (by omega)] at hu
 rw[Addr.add_mid,e,←Nat.add_assoc]
 exact h q hql k u (by unfold idA;rw[List.getElem?_toArray];exact hu)
theorem SRow.cells {w:World} {b off:Nat} {l:List ByteArray} (h:∀j (h:j<l.length),w.cell? ⟨b,off+j,none⟩=some (.string l[j])):∀j u,(l.map Value.string)[j]?=some u→w.cell? ((⟨b,off,none⟩:Addr).add j)=some u:=by
 intro j u hu
 have hj:j<l.length:=by have:=(List.getElem?_eq_some_iff.1 hu).1;simpa using this
 rw[List.getElem?_map,List.getElem?_eq_getElem hj] at hu
 cases hu
 rw[Addr.add_mid]
 exact h j hj
theorem Yff:(Tryz.prog.info? 26).map (fun i=>(i.zero,i.size,i.bytes))=some (some (.agg (idA zero32)),32,32):=by kernel_rfl
end Go.Proofs.YtohmdledkhgdaaaGreatDoor
/- Comparisons of arrays of bytes and of public keys. -/
namespace Go.Proofs.YtohmdledkhgdaaaGreatDoor
open Go.RowKit Go.Maps
set_option linter.unusedVariables false
set_option maxRecDepth 100000
theorem Xso {T:TypeId} {n:Nat} (hu:Tryz.prog.underlying T=some (.array n 5)) (hc:Tryz.prog.cellsOf T=n) (D:Nat) {l:List Nat} (hl:l.length=n) (hx:∀x∈l,x<256):Tryz.prog.keyLits (D+2) T (l.map U)=some (Xco l):=by
 rw[Xg6 hu,if_pos (by rw[List.length_map,hl,hc])]
 rw[Xjw _ (fun i=>[Lit.int .u8 (l.getD i 0:Int)])]
 ·simp only[Option.map_some,Option.some.injEq]
  unfold Xco
  have:(List.range n).map (fun i=>[Lit.int .u8 (l.getD i 0:Int)])=(l.map fun n:Nat=>[Lit.int .u8 (n:Int)]):=by
   apply List.ext_getElem
   ·simp[hl]
   ·intro i h1 h2
    simp at h1
    simp[List.getD,List.getElem?_eq_getElem (show i<l.length by rw[hl];exact h1)]
  rw[this]
  clear this hx hl
  induction l with
  |nil=>rfl
  |cons x l ih=>simp[ih]
 ·intro i hi
  have hi':i<l.length:=by rw[hl];exact List.mem_range.1 hi
  have hx:=hx _ (List.getElem_mem hi')
  have e:((l.map U).drop (i*Tryz.prog.cellsOf 5)).take (Tryz.prog.cellsOf 5)=[Value.int .u8 (l[i]:Int)]:=by
   rw[Ydu,Nat.mul_one,List.drop_eq_getElem_cons (by simpa using hi')]
   simp[U]
  rw[e,Xj3 Tryz.underlying5 (by simp[Lit.wf,IntKind.min,IntKind.max,IntKind.signed,IntKind.bits];omega)]
  simp[List.getD,List.getElem?_eq_getElem hi']
theorem Xoy {T:TypeId} {n:Nat} (hu:Tryz.prog.underlying T=some (.array n 5)) (hc:Tryz.prog.cellsOf T=n) (hk:Tryz.prog.keyTypeAt 3 T=true) (w:World) {l m:List Nat} (hl:l.length=n) (hlx:∀x∈l,x<256) (hm:m.length=n) (hmx:∀x∈m,x<256):
    (Op.equal T (.agg (idA l)) (.agg (idA m))).run Tryz.prog w=.ok (decide (l=m)) w:=by
 obtain⟨r,hr,hiff⟩:=run_equalIn_deep (P:=Tryz.prog) 9997 3 T hk w 2 2 (.agg (idA l)) (.agg (idA m)) (Xco l) (Xco m) (by simp[Value.formed,hu,hc,Xag,hl]) (by simp[Value.formed,hu,hc,Xag,hm]) (Xso hu hc 0 hl hlx) (Xso hu hc 0 hm hmx)
 have e:r=decide (l=m):=by
  rw[Bool.eq_iff_iff,hiff,decide_eq_true_iff]
  exact⟨Xid,fun e=>by rw[e]⟩
 rw[←e]
 exact hr
theorem Ydp (w:World) {l m:List Nat} (hl:B16 l) (hm:B16 m):(Op.equal 22 (.agg (idA l)) (.agg (idA m))).run Tryz.prog w=.ok (decide (l=m)) w:=
 Xoy Tryz.underlying22 (by kernel_rfl) (by kernel_rfl) w hl.len hl.lt hm.len hm.lt
theorem Xbj:Tryz.prog.eqGuardType Tryz.prog.depth 22=false:=by kernel_rfl
end Go.Proofs.YtohmdledkhgdaaaGreatDoor
/- canonical.Equal (printed by gen_ceq.py). -/
namespace Go.Proofs.YtohmdledkhgdaaaGreatDoor
open Go.RowKit
set_option linter.unusedVariables false
set_option maxRecDepth 100000
theorem Xgh {P:Program} {ops:Array Oper} {rest:List Oper} {o:Oper} {a:Act} {w w':World} {Q:Exit→Act→World→Prop} {v:Value} (hw:Region.wanted o (yielded ops a.tmps)=true) (h:(execOp a.eval o).run P w=.ok (.value v) w') (hk:wpList P ops Q rest (a.put o.dst v) w'):wpList P ops Q (o::rest) a w:=by
 refine wpList_step fun K hK=>?_
 rw[if_pos hw]
 unfold Oper.wp
 rw[h]
 exact hK _ _ hk
theorem Xaj {P:Program} {ops:Array Oper} {rest:List Oper} {o:Oper} {a:Act} {w:World} {Q:Exit→Act→World→Prop} (t:TypeId) {t':TypeId} (x y:Operand) (ho:o.op=.binOp .neq t x y t') (hw:Region.wanted o (yielded ops a.tmps)=true) (hm:P.eqGuardType P.depth t=false)
    (h:∃xs ys r,a.eval x=.agg xs∧a.eval y=.agg ys∧(Op.equal t (.agg xs) (.agg ys)).run P w=.ok r w∧wpList P ops Q rest (a.put o.dst (.bool !r)) w):wpList P ops Q (o::rest) a w:=by
 obtain⟨xs,ys,r,h1,h2,h3,h4⟩:=h
 exact Xgh hw (Xm2 ho h1 h2 hm h3) h4
theorem Xah {P:Program} {ops:Array Oper} {rest:List Oper} {o:Oper} {a:Act} {w:World} {Q:Exit→Act→World→Prop} (ty:TypeId) (x:Operand) (ho:o.op=.load ty x) (hw:Region.wanted o (yielded ops a.tmps)=true) (h:∃ad v,a.eval x=.pointer (some ad)∧(loadVar ty ad).run P w=.ok v w∧wpList P ops Q rest (a.put o.dst v) w):wpList P ops Q (o::rest) a w:=by
 obtain⟨ad,v,h1,h2,h3⟩:=h
 exact Xgh hw (Xaw ho h1 h2) h3
theorem toList_eq {x y:ByteArray} (h:x=y):(x.toList==y.toList)=true:=by rw[h];exact beq_self_eq_true _
theorem Xdq {x y:ByteArray} (h:¬x=y):(x.toList==y.toList)=false:=by
 rw[beq_eq_false_iff_ne,ByteArray.toList_eq,ByteArray.toList_eq]
 exact fun e=>h (ByteArray.ext (Array.toList_inj.1 e))
theorem Xk9 {u v w:World} (h:Dr u v) (h':Dr v w):Dr u w:=by
 obtain⟨p,rfl⟩:=h
 obtain⟨q,rfl⟩:=h'
 exact⟨p+q,Xdx _ _ _⟩
theorem Ye7 {l m:List ByteArray} (h:l.map bs=m.map bs):l=m:=by
 have:=congrArg (List.map Xaq) h
 simpa [Function.comp_def,Xds] using this
def cn0:Cn:=⟨⟨#[]⟩,List.replicate 16 0,0,[],⟨#[]⟩,[],zero32,⟨#[]⟩,⟨#[]⟩,0,0,List.replicate 16 0,0,⟨#[]⟩⟩
theorem Xko:cn0.cells (.slice none 0 0) (.slice none 0 0)=Tryz.zeroCells37:=by kernel_rfl
theorem Xkn:cn0.Ok:=⟨⟨by simp[cn0],fun x hx=>by simp[cn0] at hx;omega⟩,⟨by simp[cn0],fun x hx=>by simp[cn0] at hx;omega⟩,⟨by simp[cn0,zero32],fun x hx=>by simp[cn0,zero32] at hx;omega⟩,fun x hx=>(by cases hx),by decide,by decide,by decide,by decide⟩
theorem Xdt (X:List Value) (u v:Value) (Y:List Value) (n:Nat) (hn:X.length=n):(X++(u::Y)).toArray.setIfInBounds n v=(X++(v::Y)).toArray:=by
 subst hn
 simp
theorem Xra {c:Cn} (h:c.Ok) (gv rv g':Value):(c.cells gv rv).setIfInBounds 18 g'=c.cells g' rv:=by
 have:=Xdt (([.string c.name]:List Value)++(c.author.map U++([.int .i64 c.date]:List Value))) gv g' ([.string c.subject,rv]++(c.sup.map U++(([.string c.ctl,.string c.dist,.int .i64 c.number,.int .i64 c.height]:List Value)++(c.root.map U++([.int .i64 c.leaf,.string c.body]:List Value))))) 18 (by simp[h.author.len])
 simpa [Cn.cells,List.append_assoc] using this
theorem Xq9 {c:Cn} (h:c.Ok) (gv rv r':Value):(c.cells gv rv).setIfInBounds 20 r'=c.cells gv r':=by
 have:=Xdt (([.string c.name]:List Value)++(c.author.map U++([.int .i64 c.date,gv,.string c.subject]:List Value))) rv r' (c.sup.map U++(([.string c.ctl,.string c.dist,.int .i64 c.number,.int .i64 c.height]:List Value)++(c.root.map U++([.int .i64 c.leaf,.string c.body]:List Value)))) 20 (by simp[h.author.len])
 simpa [Cn.cells,List.append_assoc] using this
theorem CB.set18 {w:World} {b:Nat} {c:Cn} {gv rv:Value} {T:TypeId} (h:CB w b c gv rv T) (ok:c.Ok) (g':Value):CB (w.setCell ⟨b,18,none⟩ g') b c g' rv T:=by
 have:=Xd0 h 18 g'
 rw[Xra ok] at this
 exact this
theorem CB.set20 {w:World} {b:Nat} {c:Cn} {gv rv:Value} {T:TypeId} (h:CB w b c gv rv T) (ok:c.Ok) (r':Value):CB (w.setCell ⟨b,20,none⟩ r') b c gv r' T:=by
 have:=Xd0 h 20 r'
 rw[Xq9 ok] at this
 exact this
theorem CB.setC {w:World} {b k:Nat} {c:Cn} {gv rv:Value} {T:TypeId} (h:CB w k c gv rv T) (j:Nat) (u:Value) (hne:k≠b):CB (w.setCell ⟨b,j,none⟩ u) k c gv rv T:=(Xjr w b j k u hne).trans h
theorem Ygf (l:List Value) (h:∀v∈l,v.oneCell'=true):l.toArray.all (·.oneCell')=true:=by
 rw[Array.all_eq_true']
 intro x hx
 exact h x (by simpa using hx)
theorem Xc0 (c:Cn) (gv rv:Value) (hg:gv.oneCell'=true) (hr:rv.oneCell'=true):(c.cells gv rv).all (·.oneCell')=true:=by
 refine Ygf _ (fun v hv=>?_)
 simp only[List.mem_append,List.mem_cons,List.not_mem_nil,or_false,List.mem_map] at hv
 rcases hv with rfl|⟨y,_,rfl⟩|(rfl|rfl|rfl|rfl)|⟨y,_,rfl⟩|(rfl|rfl|rfl|rfl)|⟨y,_,rfl⟩|(rfl|rfl)
 all_goals first|rfl|assumption
theorem SRow.one {w:World} {v:Value} {l:List ByteArray} (h:SRow w v l):v.oneCell'=true:=by obtain⟨a,c,rfl,_⟩:=h;rfl
theorem IRow.one {w:World} {v:Value} {l:List (List Nat)} (h:IRow w v l):v.oneCell'=true:=by obtain⟨a,c,rfl,_⟩:=h;rfl
theorem Yhf {w w':World} {base b:Nat} {e:TypeId} {size n:Nat} {v:Value} {xs:List Value} (h:w.ownsRow base e size v n xs) (hb:Below w.heap.size w w'):w'.ownsRow base e size v n xs:=by
 rcases h.2 with⟨rfl,h0⟩|⟨g,cap,cur,rfl,hg,hgb,r⟩
 ·exact⟨h.1,.inl ⟨rfl,h0⟩⟩
 ·exact⟨h.1,.inr ⟨g,cap,cur,rfl,hg,(hb.block g (lt_of_block hgb)).trans hgb,r⟩⟩
theorem Xog {w:World} {base:Nat} {e:TypeId} {size n:Nat} {v:Value} {xs:List Value} (h:w.ownsRow base e size v n xs):∃a m c,v=.slice a m c:=by
 rcases h.2 with⟨e,_⟩|⟨g,cap,_,e,_⟩
 ·exact⟨_,_,_,e⟩
 ·exact⟨_,_,_,e⟩
end Go.Proofs.YtohmdledkhgdaaaGreatDoor
