/- canonical.fromValues: the content under way in its block. -/
import Derived.Test.YtohmdledkhgdaaaGreatDoorPa27
namespace Go.Proofs.YtohmdledkhgdaaaGreatDoor
open Go.RowKit
set_option linter.unusedVariables false
set_option maxRecDepth 100000
theorem Xec {P:Program} (w:World) (g o:Nat) (ty t:TypeId) (X Y Z:List Value) (vs:Array Value) (hg:w.heap[g]?=some (.cells (X++(Y++Z)).toArray t (0,0))) (hX:X.length=o) (hY:Y.length=vs.size)
    (hi:(P.info? ty).map (·.size)=some vs.size) (h1:vs.all (·.oneCell')=true):(storeVar ty ⟨g,o,none⟩ (.agg vs)).run P w=.ok () (w.setRow g (X++(vs.toList++Z)).toArray):=by
 have hst:=run_storeCells_at P g o t vs.toList 0 _ w hg (by simp;omega) (fun v hv=>(Array.all_eq_true'.1 h1) v (by simpa using hv))
 have e:(X++(Y++Z)).toArray.toList.take (o+0)++vs.toList++(X++(Y++Z)).toArray.toList.drop (o+0+vs.toList.length)=X++(vs.toList++Z):=by
  subst hX
  rw[show vs.toList.length=Y.length by rw[Array.length_toList,hY]]
  simp
 rw[e] at hst
 cases hq:P.info? ty with
 |none=>simp[hq] at hi
 |some i=>
  have hs:i.size=vs.size:=by simp[hq] at hi;omega
  simp[storeVar,sizeOf,typeInfo,hq,Value.cells,hs,hst]
section
variable {w:World} {b:Nat} {c:Cn} {gv rv:Value} {T:TypeId} (h:CB w b c gv rv T) (ok:c.Ok)
include h ok
theorem CB.setAu {a:List Nat} (ha:B16 a):(storeVar 33 ⟨b,1,none⟩ (.agg (idA a))).run Tryz.prog w=.ok () (w.setRow b (({c with author:=a}:Cn).cells gv rv))∧CB (w.setRow b (({c with author:=a}:Cn).cells gv rv)) b {c with author:=a} gv rv T:=by
 refine⟨?_,setRow_heap w b _ _ _ _ h⟩
 have:=Xec (P:=Tryz.prog) w b 1 33 T [.string c.name] (c.author.map U) (([.int .i64 c.date,gv,.string c.subject,rv]:List Value)++(c.sup.map U++(([.string c.ctl,.string c.dist,.int .i64 c.number,.int .i64 c.height]:List Value)++(c.root.map U++([.int .i64 c.leaf,.string c.body]:List Value))))) (idA a) h rfl (by rw[Xag,List.length_map,ok.author.len,ha.len]) (by rw[Xag,ha.len];exact Xjh) (Xdu a)
 rw[this];rfl
theorem CB.setSu {a:List Nat} (ha:IdOk a):(storeVar 26 ⟨b,21,none⟩ (.agg (idA a))).run Tryz.prog w=.ok () (w.setRow b (({c with sup:=a}:Cn).cells gv rv))∧CB (w.setRow b (({c with sup:=a}:Cn).cells gv rv)) b {c with sup:=a} gv rv T:=by
 refine⟨?_,setRow_heap w b _ _ _ _ h⟩
 have:=Xec (P:=Tryz.prog) w b 21 26 T (([.string c.name]:List Value)++(c.author.map U++([.int .i64 c.date,gv,.string c.subject,rv]:List Value))) (c.sup.map U) (([.string c.ctl,.string c.dist,.int .i64 c.number,.int .i64 c.height]:List Value)++(c.root.map U++([.int .i64 c.leaf,.string c.body]:List Value))) (idA a) (by unfold CB at h;rw[h];simp[Cn.cells]) (by simp[ok.author.len]) (by rw[Xag,List.length_map,ok.sup.len,ha.len]) (by rw[Xag,ha.len];exact Xbf) (Xdu a)
 rw[this]
 simp[Cn.cells,idA]
theorem CB.setPk {n:Int} {a:List Nat} (ha:a.length=16):(storeVar 35 ⟨b,56,none⟩ (.agg (pkC n a))).run Tryz.prog w=.ok () (w.setRow b (({c with height:=n,root:=a}:Cn).cells gv rv))∧CB (w.setRow b (({c with height:=n,root:=a}:Cn).cells gv rv)) b {c with height:=n,root:=a} gv rv T:=by
 refine⟨?_,setRow_heap w b _ _ _ _ h⟩
 have:=Xec (P:=Tryz.prog) w b 56 35 T (([.string c.name]:List Value)++(c.author.map U++(([.int .i64 c.date,gv,.string c.subject,rv]:List Value)++(c.sup.map U++([.string c.ctl,.string c.dist,.int .i64 c.number]:List Value))))) ([.int .i64 c.height]++c.root.map U) [.int .i64 c.leaf,.string c.body] (pkC n a) (by unfold CB at h;rw[h];simp[Cn.cells]) (by simp[ok.author.len,ok.sup.len]) (by rw[Xis ha];simp[ok.root.len]) (by rw[Xis ha];exact Xcw) (Xy4 ha).2
 rw[this]
 simp[Cn.cells,pkC]
theorem CB.setDa (d:Int):CB (w.setCell ⟨b,17,none⟩ (.int .i64 d)) b {c with date:=d} gv rv T:=by
 have:=Xd0 h 17 (.int .i64 d)
 have e:=Xdt (([.string c.name]:List Value)++c.author.map U) (.int .i64 c.date) (.int .i64 d) ([gv,.string c.subject,rv]++(c.sup.map U++(([.string c.ctl,.string c.dist,.int .i64 c.number,.int .i64 c.height]:List Value)++(c.root.map U++([.int .i64 c.leaf,.string c.body]:List Value))))) 17 (by simp[ok.author.len])
 rw[show(c.cells gv rv).setIfInBounds 17 (.int .i64 d)=({c with date:=d}:Cn).cells gv rv by simpa [Cn.cells,List.append_assoc] using e] at this
 exact this
theorem CB.setNu (d:Int):CB (w.setCell ⟨b,55,none⟩ (.int .i64 d)) b {c with number:=d} gv rv T:=by
 have:=Xd0 h 55 (.int .i64 d)
 have e:=Xdt (([.string c.name]:List Value)++(c.author.map U++(([.int .i64 c.date,gv,.string c.subject,rv]:List Value)++(c.sup.map U++([.string c.ctl,.string c.dist]:List Value))))) (.int .i64 c.number) (.int .i64 d) ([.int .i64 c.height]++(c.root.map U++([.int .i64 c.leaf,.string c.body]:List Value))) 55 (by simp[ok.author.len,ok.sup.len])
 rw[show(c.cells gv rv).setIfInBounds 55 (.int .i64 d)=({c with number:=d}:Cn).cells gv rv by simpa [Cn.cells,List.append_assoc] using e] at this
 exact this
theorem CB.setLe (d:Int):CB (w.setCell ⟨b,73,none⟩ (.int .i64 d)) b {c with leaf:=d} gv rv T:=by
 have:=Xd0 h 73 (.int .i64 d)
 have e:=Xdt (([.string c.name]:List Value)++(c.author.map U++(([.int .i64 c.date,gv,.string c.subject,rv]:List Value)++(c.sup.map U++(([.string c.ctl,.string c.dist,.int .i64 c.number,.int .i64 c.height]:List Value)++c.root.map U))))) (.int .i64 c.leaf) (.int .i64 d) [.string c.body] 73 (by simp[ok.author.len,ok.sup.len,ok.root.len])
 rw[show(c.cells gv rv).setIfInBounds 73 (.int .i64 d)=({c with leaf:=d}:Cn).cells gv rv by simpa [Cn.cells,List.append_assoc] using e] at this
 exact this
theorem CB.setGr (g':Value) (gs:List ByteArray):CB (w.setCell ⟨b,18,none⟩ g') b {c with groups:=gs} g' rv T:=h.set18 ok g'
theorem CB.setRe (r':Value) (rs:List (List Nat)):CB (w.setCell ⟨b,20,none⟩ r') b {c with refs:=rs} gv r' T:=h.set20 ok r'
end
def cnS (a b c d e:ByteArray):Cn:=⟨a,Xdc,0,[],b,[],zero32,c,d,0,0,List.replicate 16 0,0,e⟩
theorem Ybx (w:World) (a b c d e:ByteArray):(Instr.build 37 #[(0,.string a),(4,.string b),(7,.string c),(8,.string d),(12,.string e)]).run Tryz.prog w=.ok (.agg ((cnS a b c d e).cells (.slice none 0 0) (.slice none 0 0))) w:=by kernel_rfl
theorem Ydt (a b c d e:ByteArray):(cnS a b c d e).Ok:=
 ⟨⟨by simp[cnS,Xdc],fun x hx=>by simp[cnS,Xdc] at hx;omega⟩,⟨by simp[cnS],fun x hx=>by simp[cnS] at hx;omega⟩,zero_ok,fun x hx=>by simp[cnS] at hx,rfl,rfl,rfl,rfl⟩
def CkZ (w:World) (b:Nat) (z:Int):Prop:=w.heap[b]?=some (.cells #[.int .i64 z] 96 (0,0))
theorem CkZ.cell {w:World} {b:Nat} {z:Int} (h:CkZ w b z):w.cell? ⟨b,0,none⟩=some (.int .i64 z):=cell_of_row w b 0 _ _ _ h
theorem CkZ.free {w:World} {b:Nat} {z:Int} (h:CkZ w b z):w.frozen? ⟨b,0,none⟩=false:=by unfold CkZ at h;simp[World.frozen?,h]
def feZ (a b:Int):Int:=if a≠0 then a else b
def Xth (w:World) (b:Nat) (z:Int) (e:Ending) (w':World):Prop:=(∃v,e=.returned v)∧CkZ w' b z∧Fr1 b w w'
theorem Xvm (w:World) (b:Nat) (n:Int) (h:CkZ w b n) (e:Int):
    Calls Tryz.prog 59 #[.pointer (some ⟨b,0,none⟩),.bool true,.int .i64 e] w (Xth w b (feZ n e)):=by
 have hc:=h.cell
 have hf:=h.free
 have H:=Hd h
 clear h
 by_cases h0:n=0
 ·subst h0
  have P:Hid (CkZ (w.setCell ⟨b,0,none⟩ (.int .i64 e)) b e):=Hd (Xd0 H.out 0 _)
  have Q:Hid (Fr1 b w (w.setCell ⟨b,0,none⟩ (.int .i64 e))):=Hd (Fr1.setC _)
  go_enter Tryz.func59,Tryz.ntmps59
  go_wp2_with fail
  go_end0
  exact⟨⟨_,rfl⟩,P.out,Q.out⟩
 ·have hz:(n==0)=false:=beq_eq_false_iff_ne.2 h0
  have HE:Hid (feZ n e=n):=Hd (by unfold feZ;rw[if_pos h0])
  clear h0
  go_enter Tryz.func59,Tryz.ntmps59
  go_wp2_with fail
  go_end0
  exact⟨⟨_,rfl⟩,by rw[HE.out];exact H.out,Fr1.refl _ _⟩
theorem Xca (w:World) (b:Nat) (n:Int) (h:CkZ w b n) (e:Int):
    Calls Tryz.prog 51 #[.pointer (some ⟨b,0,none⟩),.int .i64 e] w (Xth w b (feZ n e)):=by
 have W:=Hd (Xvm w b n h e)
 clear h
 go_enter Tryz.func51,Tryz.ntmps51
 go_wp2_with fail
 refine W.out.mono ?_
 rintro e w' ⟨⟨v,rfl⟩,h1,h2⟩
 have H1:=Hd h1;have H2:=Hd h2
 clear h1 h2 W
 go_wp2_with fail
 go_end0
 exact⟨⟨_,rfl⟩,H1.out,H2.out⟩
theorem SRow.fr {w w':World} {v:Value} {gs:List ByteArray} {b:Nat} (h:SRow w v gs) (hf:Fr1 b w w') (ho:∀k,v.ownBlock=some k→k≠b):SRow w' v gs:=by
 obtain⟨a,cap,rfl,hc,r⟩:=h
 refine⟨a,cap,rfl,hc,fun hne=>?_⟩
 obtain⟨k,off,rfl,hk,hcell⟩:=r hne
 refine⟨k,off,rfl,Nat.lt_of_lt_of_le hk hf.size,fun j hj=>?_⟩
 have e:=hf.other k hk (ho k rfl)
 rw[←hcell j hj];unfold World.cell?;simp only[e]
theorem IRow.fr {w w':World} {v:Value} {ids:List (List Nat)} {b:Nat} (h:IRow w v ids) (hf:Fr1 b w w') (ho:∀k,v.ownBlock=some k→k≠b):IRow w' v ids:=by
 obtain⟨a,cap,rfl,hc,r⟩:=h
 refine⟨a,cap,rfl,hc,fun hne=>?_⟩
 obtain⟨k,off,rfl,hk,hcell⟩:=r hne
 refine⟨k,off,rfl,Nat.lt_of_lt_of_le hk hf.size,fun j hj i u hu=>?_⟩
 have e:=hf.other k hk (ho k rfl)
 rw[←hcell j hj i u hu];unfold World.cell?;simp only[e]
structure FvI (w:World) (vs:List ByteArray) (c:Cn) (gv rv:Value) (er:Int) (wx:World):Prop where
 bel:Below w.heap.size w wx
 box:wx.heap[w.heap.size]?=some (.cells (vs.map Value.string).toArray 101 (0,0))
 res:wx.heap[w.heap.size+1]?=some (.cells (cn0.cells (.slice none 0 0) (.slice none 0 0)) 37 (0,0))
 chk:CkZ wx (w.heap.size+2) er
 cb:CB wx (w.heap.size+3) c gv rv 37
 ok:c.Ok
 srow:SRow wx gv c.groups
 irow:IRow wx rv c.refs
 gown:∀k,gv.ownBlock=some k→w.heap.size+4≤k
 rown:∀k,rv.ownBlock=some k→w.heap.size+4≤k
section
variable {w:World} {vs:List ByteArray} {c:Cn} {gv rv:Value} {er:Int} {wx:World} (h:FvI w vs c gv rv er wx)
include h
theorem FvI.lt:w.heap.size+4≤wx.heap.size:=h.cb.lt
theorem FvI.on {wy:World} (hb:Below wx.heap.size wx wy):FvI w vs c gv rv er wy:=
 ⟨h.bel.trans (hb.mono h.bel.size),(hb.block _ (lt_of_block h.box)).trans h.box,(hb.block _ (lt_of_block h.res)).trans h.res,(hb.block _ (lt_of_block h.chk)).trans h.chk,h.cb.on hb,h.ok,h.srow.below hb,h.irow.below hb,h.gown,h.rown⟩
theorem FvI.at {j:Nat} {v:ByteArray} (hv:vs[j]?=some v):wx.cell? ⟨w.heap.size,j,none⟩=some (.string v):=by
 rw[cell_of_row wx w.heap.size j _ _ _ h.box];simp[hv]
theorem FvI.upd {wy:World} {b:Nat} {c':Cn} {gv' rv':Value} {er':Int} (hf:Fr1 b wx wy) (hb:b=w.heap.size+2∨b=w.heap.size+3) (hck:CkZ wy (w.heap.size+2) er') (hcb:CB wy (w.heap.size+3) c' gv' rv' 37) (ok':c'.Ok)
    (sr:SRow wx gv' c'.groups) (ir:IRow wx rv' c'.refs) (go:∀k,gv'.ownBlock=some k→w.heap.size+4≤k) (ro:∀k,rv'.ownBlock=some k→w.heap.size+4≤k):FvI w vs c' gv' rv' er' wy:=
 ⟨h.bel.trans (hf.below h.bel.size (by omega)),(hf.other _ (lt_of_block h.box) (by omega)).trans h.box,(hf.other _ (lt_of_block h.res) (by omega)).trans h.res,hck,hcb,ok',sr.fr hf (fun k hk=>by have:=go k hk;omega),ir.fr hf (fun k hk=>by have:=ro k hk;omega),go,ro⟩
theorem FvI.tk {wy:World} {er':Int} (hck:CkZ wy (w.heap.size+2) er') (hf:Fr1 (w.heap.size+2) wx wy):FvI w vs c gv rv er' wy:=
 h.upd hf (.inl rfl) hck (h.cb.fr hf (by omega)) h.ok h.srow h.irow h.gown h.rown
theorem FvI.row {cs:Array Value} {c':Cn} (hcb:CB (wx.setRow (w.heap.size+3) cs) (w.heap.size+3) c' gv rv 37) (ok':c'.Ok) (hg:c'.groups=c.groups) (hr:c'.refs=c.refs):FvI w vs c' gv rv er (wx.setRow (w.heap.size+3) cs):=
 have hf:Fr1 (w.heap.size+3) wx (wx.setRow (w.heap.size+3) cs):=⟨rfl,rfl,rfl,by simp[World.setRow],fun k _ hne=>setRow_other wx (w.heap.size+3) k cs hne⟩
 h.upd hf (.inr rfl) ((hf.other _ (lt_of_block h.chk) (by omega)).trans h.chk) hcb ok' (by rw[hg];exact h.srow) (by rw[hr];exact h.irow) h.gown h.rown
theorem FvI.one {j:Nat} {u:Value} {c':Cn} {gv' rv':Value} (hcb:CB (wx.setCell ⟨w.heap.size+3,j,none⟩ u) (w.heap.size+3) c' gv' rv' 37) (ok':c'.Ok) (sr:SRow wx gv' c'.groups) (ir:IRow wx rv' c'.refs) (go:∀k,gv'.ownBlock=some k→w.heap.size+4≤k) (ro:∀k,rv'.ownBlock=some k→w.heap.size+4≤k):FvI w vs c' gv' rv' er (wx.setCell ⟨w.heap.size+3,j,none⟩ u):=
 have hf:Fr1 (w.heap.size+3) wx (wx.setCell ⟨w.heap.size+3,j,none⟩ u):=Fr1.setC u
 h.upd hf (.inr rfl) ((hf.other _ (lt_of_block h.chk) (by omega)).trans h.chk) hcb ok' sr ir go ro
theorem FvI.free (j:Nat):wx.frozen? ⟨w.heap.size+3,j,none⟩=false:=by have:wx.heap[w.heap.size+3]?=_:=h.cb;simp[World.frozen?,this]
end
theorem Xi9 {n:Nat} (h:n≤1000000000):(Lit.int .i64 (n:Int)).wf=true:=by
 simp[Lit.wf,IntKind.min,IntKind.max,IntKind.signed,IntKind.bits]
 omega
theorem Xju (most:Nat) (l:List Nat):(Xnj most l).1≤most:=by
 unfold Xnj
 split
 ·exact Nat.zero_le _
 ·split
  ·assumption
  ·exact Nat.zero_le _
def FvGood (cn:Cn) (vs:List ByteArray) (body:ByteArray):Prop:=cn.Ok∧Xc3 cn.p=0∧vs.map bs=Xa4 cn.p∧body=cn.body
def Xkw (vs:List ByteArray) (body:ByteArray) (w:World) (e:Ending) (w':World):Prop:=
 ∃(c:Cn) (gv rv:Value) (z:Int),e=.returned (.tuple #[.agg (c.cells gv rv),.int .i64 z])∧CnIn w' c gv rv∧(∀cn,FvGood cn vs body→z=0∧c.p=cn.p)∧(∀k,gv.ownBlock=some k→w.heap.size≤k)∧(∀k,rv.ownBlock=some k→w.heap.size≤k)∧Below w.heap.size w w'
end Go.Proofs.YtohmdledkhgdaaaGreatDoor
/- Plain: the values of a valid content's canonical form are read back as that content. -/
namespace Go.Proofs.YtohmdledkhgdaaaGreatDoor
set_option linter.unusedVariables false
set_option maxRecDepth 100000
theorem Xkq {c:Cont} (h:Xc3 c=0):Xbp c.groups=0∧Xer c.refs=0∧c.leaf≤255:=by
 have vd:=Xf1 h
 unfold Xc3 at h
 obtain⟨h1,h⟩:=Xbb h
 obtain⟨h2,h⟩:=Xbb h
 obtain⟨h3,h⟩:=Xbb h
 obtain⟨h4,h⟩:=Xbb h
 obtain⟨h5,h⟩:=Xbb h
 obtain⟨h6,h⟩:=Xbb h
 obtain⟨h7,h⟩:=Xbb h
 obtain⟨h8,h⟩:=Xbb h
 obtain⟨h9,h⟩:=Xbb h
 obtain⟨h10,h⟩:=Xbb h
 refine⟨h3,h5,?_⟩
 have h10:=Xd8 (by decide) h10
 simp only[Bool.or_eq_false_iff,decide_eq_false_iff_not] at h10
 have h11:=h10.2
 unfold Xbh at h11
 have hh:=vd.height
 have hb:Xau c.height=true:=by unfold Xau;simp;omega
 rw[if_pos hb] at h11
 have:(2:Int)^c.height.toNat≤256:=by
  obtain⟨k,hk⟩:∃k,k=c.height.toNat:=⟨_,rfl⟩
  rw[←hk]
  have h8:k≤8:=by omega
  have:∀k,k≤8→(2:Int)^k≤256:=by decide
  exact this k h8
 omega
theorem Yfr {l:List Nat} (h:∀c∈l,48≤c∧c≤57):l.all dig=true:=by
 rw[List.all_eq_true]
 intro c hc
 have:=h c hc
 unfold dig;simp;omega
theorem Xyq (k u:Nat):Xek k u≠[]:=by
 cases k with
 |zero=>simp[Xek]
 |succ k=>simp only[Xek];split<;>simp
theorem Xo3:∀(k u:Nat),u<10^(k+1)→1<(Xek k u).length→(Xek k u).getD 0 0≠48
 |0,u,_,h=>by simp[Xek] at h
 |k+1,u,hu,h=>by
  simp only[Xek] at h⊢
  split
  ·rename_i h10;rw[if_pos h10] at h;simp at h
  ·rename_i h10
   have hu':u/10<10^(k+1):=by rw[Nat.pow_succ] at hu;omega
   have hne:=Xyq k (u/10)
   have hpos:0<(Xek k (u/10)).length:=List.length_pos_iff.2 hne
   have e:(Xek k (u/10)++[48+u%10]).getD 0 0=(Xek k (u/10)).getD 0 0:=by
    rw[List.getD_eq_getElem?_getD,List.getElem?_append_left hpos,←List.getD_eq_getElem?_getD]
   rw[e]
   by_cases hl:1<(Xek k (u/10)).length
   ·exact Xo3 k (u/10) hu' hl
   · --one digit:it is u/10,not 0
    have h1:(Xek k (u/10)).length=1:=by omega
    obtain⟨x,hx⟩:∃x,Xek k (u/10)=[x]:=List.length_eq_one_iff.1 h1
    have hv:=Xmc k (u/10) hu'
    rw[hx] at hv⊢
    have hm:=Xi2 k (u/10) x (by rw[hx];exact List.mem_singleton.2 rfl)
    simp[Xij] at hv
    simp
    omega
theorem Xg4 {v:Int} {most:Nat} (h0:0≤v) (h1:v≤(most:Int)) (hm:most≤1000000000):Xnj most (Xd1 v)=(v.toNat,0):=by
 rw[Xi3 h0]
 have hlt:v.toNat<10^21:=by have:(10:Nat)^21=1000000000000000000000:=by decide
                            omega
 unfold Xnj
 rw[if_neg,Xmc 20 v.toNat hlt,if_pos (by omega)]
 rintro(h|h|⟨h,h2⟩)
 ·exact Xyq _ _ h
 ·rw[Yfr (Xi2 20 v.toNat)] at h;cases h
 ·exact Xo3 20 v.toNat hlt h h2
theorem Yc7 (s:Nat):∀(x:List Nat),s∉x→spl s x=[x]
 |[],_=>rfl
 |c::x,h=>by
  have h1:c≠s:=fun e=>h (by rw[e];exact List.mem_cons_self ..)
  simp only[spl]
  rw[if_neg h1,Yc7 s x (fun e=>h (List.mem_cons_of_mem _ e))]
theorem Xv7 (s:Nat) (b:List Nat):∀(x:List Nat),s∉x→spl s (x++s::b)=x::spl s b
 |[],_=>by simp[spl]
 |c::x,h=>by
  have h1:c≠s:=fun e=>h (by rw[e];exact List.mem_cons_self ..)
  rw[List.cons_append]
  simp only[spl]
  rw[if_neg h1,Xv7 s b x (fun e=>h (List.mem_cons_of_mem _ e))]
theorem Xrw (s:Nat):∀{l:List (List Nat)},l≠[]→(∀x∈l,s∉x)→spl s (Xa0 [s] l)=l
 |[],h,_=>absurd rfl h
 |[x],_,h=>Yc7 s x (h x (List.mem_cons_self ..))
 |x::y::r,_,h=>by
  rw[join_cons,Xv7 s _ x (h x (List.mem_cons_self ..)),Xrw s (by simp) (fun z hz=>h z (List.mem_cons_of_mem _ hz))]
theorem Yew {x:List Nat} (h:Xbg x=0):x≠[]:=by
 rintro rfl
 exact absurd h (by decide)
theorem Ybv {l:List (List Nat)} (h:Xbp l=0):Ydm (Xa0 [44] l)=0∧spl 44 (Xa0 [44] l)=l:=by
 have hg:=Xos h
 have h44:∀x∈l,44∉x:=fun x hx he=>(Xms (hg.2 x hx) 44 he).2.1 rfl
 have e:=Xrw 44 hg.1 h44
 refine⟨?_,e⟩
 unfold Ydm
 rw[if_neg (fun hn=>hg.1 (Ybq (fun x hx=>Yew (hg.2 x hx)) hn)),e]
 unfold Xbp at h
 rw[if_neg hg.1] at h
 exact h
theorem Xxr {c:Cont} (hn:0≤c.number):Xh5 32 (Xj4 c)=Xd1 c.number∧(Xj4 c).drop ((Xh5 32 (Xj4 c)).length+1)=Xe5 (Xoa c):=by
 have h:Xh5 32 (Xj4 c)=Xd1 c.number:=by
  unfold Xh5 Xj4
  rw[(Xrq (fun x=>!decide (x=32)) (Xd1 c.number) (32::Xe5 (Xoa c)) (fun x hx=>by
   have:=Xdl hn x hx
   simp;omega) (.inr ⟨32,_,rfl,by decide⟩)).1]
 refine⟨h,?_⟩
 rw[h]
 unfold Xj4
 rw[←List.drop_drop,List.drop_left];rfl
theorem Xsb {c:Cont} (hr:c.root.length=16) (hl:∀x∈c.root,x<256) (h1:1≤c.height) (h8:c.height≤8):Xf5 (Xe5 (Xoa c))=0∧(Xcj (Xe5 (Xoa c))).1=c.height.toNat::c.root:=by
 have hb:(c.height%256).toNat=c.height.toNat:=by omega
 have e:Xcj (Xe5 (Xoa c))=(c.height.toNat::c.root,0,0):=by
  rw[Yft (Xoa c) (fun x hx=>by
   unfold Xoa at hx
   rcases List.mem_cons.1 hx with rfl|hx
   ·omega
   ·exact hl x hx) (by unfold Xoa;rw[List.length_cons,hr];omega)]
  unfold Xoa;rw[hb]
 refine⟨?_,by rw[e]⟩
 unfold Xf5
 rw[e]
 simp only[List.length_cons,hr,List.getD_cons_zero]
 rw[if_neg (by simp),if_neg (by omega),if_neg (by omega),if_neg (by omega)]
end Go.Proofs.YtohmdledkhgdaaaGreatDoor
