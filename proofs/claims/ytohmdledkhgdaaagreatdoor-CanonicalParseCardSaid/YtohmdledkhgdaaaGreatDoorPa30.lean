/- What CanonicalIdentity's walk leans on: sizes, guarded calls, rows that are written to. -/
import Derived.Test.YtohmdledkhgdaaaGreatDoorPa29
namespace Go.Proofs.YtohmdledkhgdaaaGreatDoor
open Go.RowKit
set_option linter.unusedVariables false
set_option maxRecDepth 100000
theorem Xmy (s:Nat):∀l:List (List Nat),(Xa0 [s] l).length≤(l.map List.length).sum+l.length
 |[]=>by simp[Xa0]
 |[x]=>by simp[Xa0]
 |x::y::r=>by
  have:=Xmy s (y::r)
  simp only[Xa0,List.length_append,List.map_cons,List.sum_cons,List.length_cons,List.length_nil] at this⊢
  omega
theorem Xnt (n:Nat):∀l:List Nat,(∀x∈l,x=n)→l.sum=l.length*n
 |[],_=>by simp
 |x::l,h=>by
  have h1:=h x (List.mem_cons_self ..)
  have h2:=Xnt n l (fun y hy=>h y (List.mem_cons_of_mem _ hy))
  rw[List.sum_cons,h1,h2,List.length_cons,Nat.succ_mul];omega
theorem Xly {c:Cn} (ok:c.Ok) (hgl:c.groups.length≤30) (hgt:tot c.groups≤100000) (hrl:c.refs.length≤30) (htx:c.name.size+c.subject.size+c.ctl.size+c.dist.size≤4000000) (hbo:c.body.size≤1000000) (h0:Xc3 c.p=0):(Xbd c.p).length≤10000000:=by
 have vd:=Xf1 h0
 rw[Xou]
 have e0:c.p.name.length=c.name.size:=Xaa _
 have e1:(Xbz c.p.author).length=2*16:=by rw[←ok.author.len];exact Xbs _
 have e2:(Xd1 c.p.date).length≤21:=Xfx vd.date.1
 have e3:(Xa0 [44] c.p.groups).length≤tot c.groups+c.groups.length:=by
  have:=Xmy 44 (c.groups.map bs)
  rw[List.map_map,List.length_map] at this
  have e:c.groups.map (List.length∘bs)=c.groups.map ByteArray.size:=List.map_congr_left (fun g _=>Xaa g)
  rw[e] at this
  exact this
 have e4:c.p.subject.length=c.subject.size:=Xaa _
 have e5:(Xa0 [32] (c.p.refs.map Xc2)).length≤c.refs.length*71+c.refs.length:=by
  have:=Xmy 32 (c.refs.map Xc2)
  rw[List.map_map,List.length_map] at this
  rw[Xnt 71 (c.refs.map (List.length∘Xc2)) (fun x hx=>by
   obtain⟨y,hy,rfl⟩:=List.mem_map.1 hx
   exact Xeu (ok.refs y hy)),List.length_map] at this
  exact this
 have e6:(Xhf c.p.sup).length≤71:=by
  unfold Xhf
  split
  ·simp
  ·exact Nat.le_of_eq (Xeu ok.sup)
 have e7:c.p.ctl.length=c.ctl.size:=Xaa _
 have e8:c.p.dist.length=c.dist.size:=Xaa _
 have e9:(Xj4 c.p).length≤1022:=by
  unfold Xj4
  rw[List.length_append,List.length_cons]
  have h1:(Xd1 c.p.number).length≤21:=Xfx vd.number.1
  have h2:(Xe5 (Xoa c.p)).length≤1000:=Ydq (fun x hx=>by
   unfold Xoa at hx
   rcases List.mem_cons.1 hx with rfl|hx
   ·omega
   ·exact ok.root.lt x hx) (by unfold Xoa;rw[List.length_cons];show c.root.length+1=17;rw[ok.root.len])
  omega
 have e10:(Xd1 c.p.leaf).length≤21:=Xfx vd.leaf.1
 have e11:c.p.body.length=c.body.size:=Xaa _
 omega
theorem Xut {c:Cn} (ok:c.Ok) (hgl:c.groups.length≤30) (hgt:tot c.groups≤3000) (hrl:c.refs.length≤30) (htx:c.name.size+c.subject.size+c.ctl.size+c.dist.size≤2000) (hbo:c.body.size≤1000000) (h0:Xc3 c.p=0):(Xbd c.p).length≤10000000:=Xly ok hgl (by omega) hrl (by omega) hbo h0
theorem Xx5 {c:Cn} (ok:c.Ok) (hf:FitsP c) (h0:Xc3 c.p=0):(Xbd c.p).length≤10000000:=Xut ok hf.gl hf.gt hf.rl hf.tx (by have:=hf.body;omega) h0
theorem Xji {P:Program} (w:World) (g o:Nat) (ty t:TypeId) (X Z:List Value) (y v:Value) (hg:w.heap[g]?=some (.cells (X++(y::Z)).toArray t (0,0))) (hX:X.length=o)
    (hi:(P.info? ty).map (·.size)=some 1) (h1:v.oneCell'=true) (hc:v.cells=#[v]):(storeVar ty ⟨g,o,none⟩ v).run P w=.ok () (w.setRow g (X++(v::Z)).toArray):=by
 have hst:=run_storeCells_at P g o t [v] 0 _ w hg (by simp;omega) (by simpa using h1)
 have e:(X++(y::Z)).toArray.toList.take (o+0)++[v]++(X++(y::Z)).toArray.toList.drop (o+0+1)=X++(v::Z):=by
  subst hX
  simp
 rw[show([v]:List Value).length=1 from rfl,e] at hst
 cases hq:P.info? ty with
 |none=>simp[hq] at hi
 |some i=>
  have hs:i.size=1:=by simp[hq] at hi;omega
  simp[storeVar,sizeOf,typeInfo,hq,hc,hs,hst]
def OwS (w:World) (base:Nat) (a:Option Addr) (n:Nat):Prop:=0<n→∃h cur,a=some ⟨h,0,none⟩∧base≤h∧w.heap[h]?=some (.cells cur 9 (0,0))∧n≤cur.size
def OwI (w:World) (base:Nat) (a:Option Addr) (n:Nat):Prop:=0<n→∃h cur,a=some ⟨h,0,none⟩∧base≤h∧w.heap[h]?=some (.cells cur 26 (0,0))∧n*32≤cur.size∧∀j,j<n*32→∃x:Int,cur[j]?=some (.int .u8 x)
theorem OwI.other {w:World} {base n h:Nat} {a:Option Addr} {old cs:Array Value} {T:TypeId} (H:OwI w base a n) (hT:T≠26) (hh:w.heap[h]?=some (.cells old T (0,0))):OwI (w.setRow h cs) base a n:=fun hn=>by
 obtain⟨g,cur,e,hb,hg,r⟩:=H hn
 refine⟨g,cur,e,hb,?_,r⟩
 have:g≠h:=fun e=>by subst e;rw[hg] at hh;cases hh;exact hT rfl
 exact(setRow_other w h g cs this).trans hg
theorem Xmw {X:Type} (l:List X) {i:Nat} (h:i<l.length):l=l.take i++(l[i]::l.drop (i+1)):=by
 rw[←List.drop_eq_getElem_cons h,List.take_append_drop]
theorem OwS.step {w:World} {base n:Nat} {a:Option Addr} (H:OwS w base a n) {i:Nat} (hi:i<n) (s:ByteArray):
    ∃h cs old,a=some ⟨h,0,none⟩∧base≤h∧h<w.heap.size∧w.heap[h]?=some (.cells old 9 (0,0))∧(storeVar 9 ⟨h,i,none⟩ (.string s)).run Tryz.prog w=.ok () (w.setRow h cs)∧OwS (w.setRow h cs) base a n:=by
 obtain⟨h,cur,e,hb,hg,hn⟩:=H (by omega)
 have hl:i<cur.toList.length:=by rw[Array.length_toList];omega
 have hg2:w.heap[h]?=some (.cells (cur.toList.take i++(cur.toList[i]::cur.toList.drop (i+1))).toArray 9 (0,0)):=by rw[←Xmw cur.toList hl,Array.toArray_toList];exact hg
 refine⟨h,_,cur,e,hb,lt_of_block hg,hg,Xji (P:=Tryz.prog) w h i 9 _ _ _ _ (.string s) hg2 (by rw[List.length_take];omega) (by kernel_rfl) rfl rfl,fun _=>⟨h,_,e,hb,setRow_heap _ _ _ _ _ _ hg,?_⟩⟩
 simp
 omega
theorem OwI.step {w:World} {base n:Nat} {a:Option Addr} (H:OwI w base a n) {i:Nat} (hi:i<n):
    ∃h x old,a=some ⟨h,0,none⟩∧base≤h∧h<w.heap.size∧w.heap[h]?=some (.cells old 26 (0,0))∧w.cell? ⟨h,i*32,none⟩=some (.int .u8 x)∧
     ∀y:Int,∃cs,(storeVar 5 ⟨h,i*32,none⟩ (.int .u8 y)).run Tryz.prog w=.ok () (w.setRow h cs)∧OwI (w.setRow h cs) base a n:=by
 obtain⟨h,cur,e,hb,hg,hn,hx⟩:=H (by omega)
 obtain⟨x,hxx⟩:=hx (i*32) (by omega)
 have hl:i*32<cur.toList.length:=by rw[Array.length_toList];omega
 have hg2:w.heap[h]?=some (.cells (cur.toList.take (i*32)++(cur.toList[i*32]::cur.toList.drop (i*32+1))).toArray 26 (0,0)):=by rw[←Xmw cur.toList hl,Array.toArray_toList];exact hg
 refine⟨h,x,cur,e,hb,lt_of_block hg,hg,(cell_of_row w h _ _ _ _ hg).trans hxx,fun y=>?_⟩
 refine⟨_,Xji (P:=Tryz.prog) w h (i*32) 5 _ _ _ _ (.int .u8 y) hg2 (by rw[List.length_take];omega) (by kernel_rfl) rfl rfl,fun _=>⟨h,_,e,hb,setRow_heap _ _ _ _ _ _ hg,?_,fun j hj=>?_⟩⟩
 ·simp;omega
 ·by_cases hji:j=i*32
  ·refine⟨y,?_⟩
   rw[hji,List.getElem?_toArray,List.getElem?_append_right (by rw[List.length_take];omega),List.length_take,Nat.min_eq_left (by omega),Nat.sub_self]
   rfl
  ·obtain⟨z,hz⟩:=hx j hj
   refine⟨z,?_⟩
   rw[←hz,List.getElem?_toArray,←Array.getElem?_toList]
   conv=>rhs;rw[Xmw cur.toList hl]
   by_cases hlt:j<i*32
   ·rw[List.getElem?_append_left (by rw[List.length_take];omega),List.getElem?_append_left (by rw[List.length_take];omega)]
   ·rw[List.getElem?_append_right (by rw[List.length_take];omega),List.getElem?_append_right (by rw[List.length_take];omega),List.length_take,Nat.min_eq_left (by omega)]
    obtain⟨d,hd⟩:∃d,j-i*32=d+1:=⟨j-i*32-1,by omega⟩
    rw[hd];rfl
end Go.Proofs.YtohmdledkhgdaaaGreatDoor
/- What CanonicalIdentity's walk calls. -/
namespace Go.Proofs.YtohmdledkhgdaaaGreatDoor
open Go.RowKit
set_option linter.unusedVariables false
set_option linter.unusedSectionVars false
set_option maxRecDepth 100000
def OwnV (c:Cn) (base:Nat) (cs:Array Value) (w:World):Prop:=∃gv rv,cs=c.cells gv rv∧w.ownsRow base 9 1 gv c.groups.length (c.groups.map Value.string)∧w.ownsRow base 26 32 rv c.refs.length (Xbv c.refs)
theorem OwnV.on {c:Cn} {base:Nat} {cs:Array Value} {w w':World} (h:OwnV c base cs w) (hb:Below w.heap.size w w'):OwnV c base cs w':=by
 obtain⟨gv,rv,e,o1,o2⟩:=h
 exact⟨gv,rv,e,Yhf (b:=0) o1 hb,Yhf (b:=0) o2 hb⟩
theorem OwnV.size {c:Cn} {base:Nat} {cs:Array Value} {w:World} (h:OwnV c base cs w) (ok:c.Ok):cs.size=75:=by
 obtain⟨gv,rv,rfl,_⟩:=h
 exact Xb1 ok _ _
theorem OwnV.one {c:Cn} {base:Nat} {cs:Array Value} {w:World} (h:OwnV c base cs w):cs.all (·.oneCell')=true:=by
 obtain⟨gv,rv,rfl,o1,o2⟩:=h
 obtain⟨a,m,k,rfl⟩:=Xog o1
 obtain⟨a',m',k',rfl⟩:=Xog o2
 exact Xc0 _ _ _ rfl rfl
section
variable {w:World} {a b:Cn} {ga ra gb rb:Value} (ha:CnArg w a ga ra) (fa:FitsP a) (hb:CnArg w b gb rb) (fb:FitsP b) {wx:World} (hx:Below w.heap.size w wx)
include ha fa hx
include hb fb
end
theorem Yfy {c:Cn} (ok:c.Ok):c.p.Ok:=⟨ok.author.lt,ok.root.lt,ok.root.len,ok.sup.lt,fun y hy=>(ok.refs y hy).lt⟩
end Go.Proofs.YtohmdledkhgdaaaGreatDoor
/- canonical.Parse. -/
namespace Go.Proofs.YtohmdledkhgdaaaGreatDoor
open Go.RowKit
set_option linter.unusedVariables false
set_option maxRecDepth 100000
theorem Yhr:∀{l:List ByteArray},l.length=11→∃v0 v1 v2 v3 v4 v5 v6 v7 v8 v9 v10,l=[v0,v1,v2,v3,v4,v5,v6,v7,v8,v9,v10]
 |[v0,v1,v2,v3,v4,v5,v6,v7,v8,v9,v10],_=>⟨v0,v1,v2,v3,v4,v5,v6,v7,v8,v9,v10,rfl⟩
theorem Yag:(Tryz.prog.info? 101).map (·.size)=some 11:=by kernel_rfl
def fwA:Array Value:=((List.range 11).map fun i=>Value.string (Xaq (fWords.getD i []))).toArray
theorem Yh8 {j:Nat} (h:j<11):fwA[j]?=some (.string (Xaq (fWords.getD j []))):=by
 unfold fwA;simp[h]
theorem Yh1 (w:World) {j:Nat} (h:j<11):(Instr.index 101 (.agg fwA) (.int .i64 (j:Int))).run Tryz.prog w=.ok (.string (Xaq (fWords.getD j []))) w:=by
 rcases(by omega:j=0∨j=1∨j=2∨j=3∨j=4∨j=5∨j=6∨j=7∨j=8∨j=9∨j=10) with rfl|rfl|rfl|rfl|rfl|rfl|rfl|rfl|rfl|rfl|rfl<;>kernel_rfl
theorem Ye2 (w:World) (hE:Env w):(loadVar 101 ⟨0,0,none⟩).run Tryz.prog w=.ok (.agg fwA) w:=
 Xai w _ 0 101 fwA _ Tryz.underlying101 rfl (by kernel_rfl) (fun j u hu=>by
  have hj:j<11:=by
   have:=(Array.getElem?_eq_some_iff.1 hu).1
   have e:fwA.size=11:=by kernel_rfl
   omega
  rw[Yh8 hj] at hu
  rw[Nat.zero_add,hE.fw j hj];exact hu)
theorem Xs5 (s p:ByteArray) (w:World):Calls Tryz.prog 68 #[.string s,.string p] w fun e w'=>∃(x:ByteArray) (b:Bool),e=.returned (.tuple #[.string x,.bool b])∧x.size≤s.size∧(∀v:ByteArray,s=p++v→b=true∧x=v)∧w'=w:=by
 refine(Xf8 s p w).mono ?_
 rintro e w' ⟨rfl,rfl⟩
 refine⟨_,_,rfl,?_,?_,rfl⟩
 ·show(Lib.trimPrefix s.data.toList p.data.toList).toArray.size≤s.size
  rw[List.size_toArray]
  unfold Lib.trimPrefix
  split
  ·rw[List.length_drop,Array.length_toList];exact Nat.sub_le _ _
  ·rw[Array.length_toList];exact Nat.le_refl _
 ·rintro v rfl
  have hp:Lib.hasPrefix (p++v).data.toList p.data.toList=true:=by
   unfold Lib.hasPrefix
   rw[List.isPrefixOf_iff_prefix]
   exact⟨v.data.toList,by simp[ByteArray.data_append]⟩
  refine⟨hp,?_⟩
  unfold Lib.trimPrefix
  rw[if_pos hp]
  apply ByteArray.ext
  simp[ByteArray.data_append]
def tlF (c:Cont) (j:Nat):List Nat:=(((fWords.zip (Xa4 c)).drop j).flatMap fun p=>p.1++32::p.2++[10])++10::c.body
theorem Yab (c:Cont):tlF c 0=Xbd c:=rfl
theorem Yed (c:Cont):tlF c 11=10::c.body:=by
 unfold tlF;rw[List.drop_of_length_le (by simp[fWords,Xa4])];rfl
theorem Yac (c:Cont) {j:Nat} (h:j<11):tlF c j=fWords.getD j []++32::((Xa4 c).getD j []++10::tlF c (j+1)):=by
 have hl:j<(fWords.zip (Xa4 c)).length:=by simp[fWords,Xa4];omega
 have e:(fWords.zip (Xa4 c))[j]=(fWords.getD j [],(Xa4 c).getD j []):=by
  rw[List.getElem_zip]
  have h1:j<fWords.length:=by simp[fWords];omega
  have h2:j<(Xa4 c).length:=by simp[Xa4];omega
  simp[List.getD,h1,h2]
 unfold tlF
 rw[List.drop_eq_getElem_cons hl,List.flatMap_cons,e]
 simp
theorem Yh6:∀j,j<11→10∉fWords.getD j []:=by decide
theorem Ye8 {c:Cont} (ho:c.Ok) (hv:c.Vd) {j:Nat} (h:j<11):Xh5 10 (tlF c j)=fWords.getD j []++32::(Xa4 c).getD j []∧(tlF c j).drop ((Xh5 10 (tlF c j)).length+1)=tlF c (j+1)∧(Xh5 10 (tlF c j)).length<(tlF c j).length:=by
 have hval:10∉(Xa4 c).getD j []:=by
  have h2:j<(Xa4 c).length:=by simp[Xa4];omega
  have:(Xa4 c).getD j []=(Xa4 c)[j]:=by simp[List.getD,h2]
  rw[this];exact Xzz ho hv _ (List.getElem_mem h2)
 have e:tlF c j=(fWords.getD j []++32::(Xa4 c).getD j [])++10::tlF c (j+1):=by rw[Yac c h];simp
 have h1:Xh5 10 (tlF c j)=fWords.getD j []++32::(Xa4 c).getD j []:=by
  rw[e];unfold Xh5
  exact(Xrq (fun x=>!decide (x=10)) _ _ (fun x hx=>by
   have:x≠10:=by
    rintro rfl
    rcases List.mem_append.1 hx with hx|hx
    ·exact Yh6 j h hx
    ·rcases List.mem_cons.1 hx with hx|hx
     ·cases hx
     ·exact hval hx
   simpa using this) (.inr ⟨10,_,rfl,by decide⟩)).1
 refine⟨h1,?_,?_⟩
 ·rw[h1,e,←List.drop_drop,List.drop_left];rfl
 ·rw[h1,e];simp
def Xex (s:ByteArray) (w:World) (e:Ending) (w':World):Prop:=
 ∃(c:Cn) (gv rv:Value) (z:Int),e=.returned (.tuple #[.agg (c.cells gv rv),.int .i64 z])∧CnIn w' c gv rv∧
  ((z=0∧Xc3 c.p=0∧Xaq (Xbd c.p)=s)∨(z=3∧c=cn0∧gv=.slice none 0 0∧rv=.slice none 0 0∧∀cn:Cn,cn.Ok→Xc3 cn.p=0→Xbd cn.p≠bs s))∧Below w.heap.size w w'
theorem Yik (w:World):CnIn w cn0 (.slice none 0 0) (.slice none 0 0):=
 ⟨Xkn,by decide,by decide,by decide,by decide,by decide,by decide,(fun g hg=>by cases hg),by decide,⟨none,0,rfl,Nat.le_refl _,fun h=>absurd rfl h⟩,⟨none,0,rfl,Nat.le_refl _,fun h=>absurd rfl h⟩⟩
theorem Xs7 (w wx:World) (cs:Array Value) (h75:cs.size=75) (h1:cs.all (·.oneCell')=true) (hq:wx.heap[w.heap.size]?=some (.cells (cn0.cells (.slice none 0 0) (.slice none 0 0)) 37 (0,0))) (hb:Below w.heap.size w wx):
    (storeVar 37 ⟨w.heap.size,0,none⟩ (.agg cs)).run Tryz.prog wx=.ok () (wx.setRow w.heap.size cs)∧
     (∀tmps:Array Value,tmps.getD 2 undef=.pointer (some ⟨w.heap.size,0,none⟩)→(results Tryz.f22 tmps).run Tryz.prog (wx.setRow w.heap.size cs)=.ok (.tuple #[.agg cs,tmps.getD 3 undef]) (wx.setRow w.heap.size cs))∧Below w.heap.size w (wx.setRow w.heap.size cs):=
 ⟨run_storeVar_row (P:=Tryz.prog) wx w.heap.size _ 37 _ cs hq (by rw[h75];exact Xb3) (by rw[h75];exact Xb1 Xkn _ _) h1,
  fun tmps ht=>Xa5 Tryz.results22 tmps _ w.heap.size _ _ _ _ ht (setRow_heap wx w.heap.size _ cs _ _ hq) Tryz.underlying37 rfl (by rw[h75];exact Xb3),
  below_setRow hb (Nat.le_refl _) cs⟩
theorem Xhy (w wx:World) (cs:Array Value) (hcs:cs=cn0.cells (.slice none 0 0) (.slice none 0 0)) (hq:wx.heap[w.heap.size]?=some (.cells cs 37 (0,0))) (hb:Below w.heap.size w wx):
    (storeVar 37 ⟨w.heap.size,0,none⟩ (.agg (cn0.cells (.slice none 0 0) (.slice none 0 0)))).run Tryz.prog wx=.ok () (wx.setRow w.heap.size (cn0.cells (.slice none 0 0) (.slice none 0 0)))∧
     (∀tmps:Array Value,tmps.getD 2 undef=.pointer (some ⟨w.heap.size,0,none⟩)→(results Tryz.f22 tmps).run Tryz.prog (wx.setRow w.heap.size (cn0.cells (.slice none 0 0) (.slice none 0 0)))=.ok (.tuple #[.agg (cn0.cells (.slice none 0 0) (.slice none 0 0)),tmps.getD 3 undef]) (wx.setRow w.heap.size (cn0.cells (.slice none 0 0) (.slice none 0 0))))∧Below w.heap.size w (wx.setRow w.heap.size (cn0.cells (.slice none 0 0) (.slice none 0 0)))∧CnIn (wx.setRow w.heap.size (cn0.cells (.slice none 0 0) (.slice none 0 0))) cn0 (.slice none 0 0) (.slice none 0 0):=by
 subst hcs
 obtain⟨h1,h2,h3⟩:=Xs7 w wx _ (Xb1 Xkn _ _) (Xc0 cn0 (.slice none 0 0) (.slice none 0 0) rfl rfl) hq hb
 exact⟨h1,h2,h3,Yik _⟩
theorem Yh7:∀j,j<11→(fWords.getD j []).length≤100:=by decide
theorem Yjq:∀j,j<11→∀x∈fWords.getD j [],x<256:=by decide
theorem Xok {l:List (List Nat)} (h:Xbp l=0):l.length≤20:=by
 unfold Xbp at h
 split at h
 ·cases h
 ·unfold Xcc at h
  split at h
  ·cases h
  ·omega
theorem Xvx {c:Cn} (h:c.p.Vd) (hl:c.p.groups.length≤20):tot c.groups≤100000:=by
 have h80:∀g∈c.groups,g.size≤80:=fun g hg=>by
  have h1:=h.groups.2 (bs g) (List.mem_map.2 ⟨g,hg,rfl⟩)
  unfold Xbg at h1
  split at h1
  ·cases h1
  ·rw[Xaa] at*;omega
 have:=Xvy h80
 have e:c.p.groups.length=c.groups.length:=List.length_map ..
 have:c.groups.length*80≤20*80:=Nat.mul_le_mul_right _ (by omega)
 omega
set_option maxHeartbeats 16000000 in
theorem Xpc (s:ByteArray) (w:World) (hs:s.size≤20000) (hE:Env w):
    Calls Tryz.prog 22 #[.string s] w (Xex s w):=by
 obtain⟨zs,z0⟩:∃x,x=cn0.cells (.slice none 0 0) (.slice none 0 0):=⟨_,rfl⟩
 obtain⟨e11,he11⟩:∃l:List ByteArray,l=List.replicate 11 ⟨#[]⟩:=⟨_,rfl⟩
 obtain⟨w0,hw0⟩:∃w0,w0=(w.alloc (.cells (Tryz.zeroCells37) 37)).alloc (.cells #[.string ⟨#[]⟩,.string ⟨#[]⟩,.string ⟨#[]⟩,.string ⟨#[]⟩,.string ⟨#[]⟩,.string ⟨#[]⟩,.string ⟨#[]⟩,.string ⟨#[]⟩,.string ⟨#[]⟩,.string ⟨#[]⟩,.string ⟨#[]⟩] 101):=⟨_,rfl⟩
 obtain⟨wA,hwA⟩:∃wA,wA=w.alloc (.cells (Tryz.zeroCells37) 37):=⟨_,rfl⟩
 have S0:Hid (w0.heap.size=w.heap.size+2):=Hd (by rw[hw0];simp)
 have B0:Hid (Below w.heap.size w w0):=Hd (by rw[hw0];exact((Below.refl _ _).alloc (Nat.le_refl _) _).alloc (by simp) _)
 have R0:Hid (w0.heap[w.heap.size]?=some (.cells zs 37 (0,0))):=Hd (by rw[hw0,z0,Xko];exact Xaf (heap_alloc_last w _))
 have V0:Hid (w0.heap[w.heap.size+1]?=some (.cells (e11.map Value.string).toArray 101 (0,0))):=Hd (by
  rw[hw0,he11]
  have:=heap_alloc_last (w.alloc (.cells (Tryz.zeroCells37) 37)) (.cells #[.string ⟨#[]⟩,.string ⟨#[]⟩,.string ⟨#[]⟩,.string ⟨#[]⟩,.string ⟨#[]⟩,.string ⟨#[]⟩,.string ⟨#[]⟩,.string ⟨#[]⟩,.string ⟨#[]⟩,.string ⟨#[]⟩,.string ⟨#[]⟩] 101)
  rw[World.size_alloc] at this;exact this)
 have L0:Hid (e11.length=11∧∀v∈e11,v.size≤100000):=Hd (by
  rw[he11];exact⟨by simp,fun v hv=>by rw[List.mem_replicate] at hv;rw[hv.2];decide⟩)
 have HW:=Hd (show w0=wA.alloc (.cells #[.string ⟨#[]⟩,.string ⟨#[]⟩,.string ⟨#[]⟩,.string ⟨#[]⟩,.string ⟨#[]⟩,.string ⟨#[]⟩,.string ⟨#[]⟩,.string ⟨#[]⟩,.string ⟨#[]⟩,.string ⟨#[]⟩,.string ⟨#[]⟩] 101) by rw[hw0,hwA])
 have HA:=Hd hwA
 have SA:Hid (wA.heap.size=w.heap.size+1):=Hd (by rw[hwA];simp)
 have HE:=Hd hE
 have LF:=Hd (fun(wx:World) (h:Below w.heap.size w wx)=>Ye2 wx (hE.on h))
 have LEN:=Hd (Xaa s)
 have Z0:=Hd z0
 clear hw0 hwA hE he11
 go_enter Tryz.func22,Tryz.ntmps22
 go_upto_region 1 with fail
 rw[←HA.out]
 clear HA
 go_upto_region 4 with fail
 rw[←HW.out,SA.out]
 clear HW SA
 have LF0:=Hd (LF.out w0 B0.out)
 obtain⟨fw,hfw⟩:∃x,x=fwA:=⟨_,rfl⟩
 have IX:Hid (∀j:Nat,j<11→∀w,(Instr.index 101 (.agg fw) (.int .i64 (j:Int))).run Tryz.prog w=.ok (.string (Xaq (fWords.getD j []))) w):=Hd (fun j h w=>by rw[hfw];exact Yh1 w h)
 rw[←hfw] at LF0
 clear hfw LF
 go_wp2_with ((with_reducible refine Xac 101 rfl _ rfl ?_);refine⟨_,_,rfl,LF0.out,?_⟩)
 go_loopg [5,6,7,8,9,10,11,12,25] 11 (fun k vr v6 v7 v8 v9 v10 v11 v12 vi wr=>∃(j:Nat) (r:ByteArray) (vl:List ByteArray),j≤11∧k=11-j∧vr=.string r∧vi=.int .i64 (j:Int)∧r.size≤s.size∧Hid (∀cn:Cn,cn.Ok→Xc3 cn.p=0→Xbd cn.p=bs s→bs r=tlF cn.p j∧(vl.take j).map bs=(Xa4 cn.p).take j)∧Hid (vl.length=11∧∀v∈vl,v.size≤100000)∧Hid (wr.heap[w.heap.size+1]?=some (.cells (vl.map Value.string).toArray 101 (0,0)))∧Hid (wr.heap[w.heap.size]?=some (.cells zs 37 (0,0)))∧Hid (Below w.heap.size w wr))
 case atStart=>exact⟨0,s,e11,by omega,rfl,rfl,rfl,Nat.le_refl _,Hd (fun cn h1 h2 h3=>⟨by rw[Yab];exact h3.symm,rfl⟩),L0,V0,R0,B0⟩
 case round=>
  clear V0 R0 L0 LF0
  obtain⟨j,r,vl,hj,rfl,rfl,rfl,hrz,hlaw,hvl,hvb,hrb,hb⟩:=hrel
  by_cases hlt:j<11
  ·obtain⟨fj,hfj⟩:∃x,x=Xaq (fWords.getD j []):=⟨_,rfl⟩
   have ix:=IX.out j hlt
   rw[←hfj] at ix
   have fz:fj.size≤100:=by rw[hfj,Xan];exact Yh7 j hlt
   have FJ:Hid (bs fj=fWords.getD j []):=Hd (by rw[hfj];exact Xc1 _ (Yjq j hlt))
   have CU:=Hd (Xq5 r 10 wr (by omega) (HE.out.on hb.out).mx)
   have k1:(j:Int)<11:=by omega
   have k0:(0:Int)≤(j:Int):=by omega
   have v1:IntKind.i64.wrap ((j:Int)+1)=(j:Int)+1:=IntWalk.i64_in _ (by omega)
   have v0:IntKind.i64.wrap (j:Int)=(j:Int):=IntWalk.i64_in _ (by omega)
   have d1:decide ((j:Int)<11)=true:=decide_eq_true k1
   clear hfj
   go_wp2_with fail
   refine CU.out.mono ?_
   rintro e w1 ⟨ln,af,en,rfl,hln,haf,hen,hlz,hd⟩
   have afz:af.size≤r.size:=by
    have:=congrArg List.length haf
    rw[Xaa,List.length_drop,Xaa] at this;omega
   have CP:=Hd (Xs5 ln (fj++⟨#[32]⟩) w1)
   have b1:Below wr.heap.size wr w1:=Dr.below hd
   have B1:=Hd (hb.out.trans (b1.mono hb.out.size))
   have R1:=Hd ((b1.block _ (lt_of_block hrb.out)).trans hrb.out)
   have V1:=Hd ((b1.block _ (lt_of_block hvb.out)).trans hvb.out)
   have LNL:Hid (∀cn:Cn,cn.Ok→Xc3 cn.p=0→Xbd cn.p=bs s→en=true∧bs af=tlF cn.p (j+1)∧∃v,ln=(fj++⟨#[32]⟩)++v∧bs v=(Xa4 cn.p).getD j []):=Hd (fun cn h1 h2 h3=>by
    obtain⟨q1,_⟩:=hlaw.out cn h1 h2 h3
    obtain⟨p1,p2,p3⟩:=Ye8 (Yfy h1) (Xf1 h2) hlt
    rw[←q1] at p1 p2 p3
    refine⟨by rw[hen];exact decide_eq_true p3,by rw[haf];exact p2,Xaq ((Xa4 cn.p).getD j []),?_,?_⟩
    ·refine Xgm ?_
     have hv:∀x∈(Xa4 cn.p).getD j [],x<256:=fun x hx=>Xga ln x (by rw[hln];show x∈Xh5 10 (bs r);rw[p1];exact List.mem_append_right _ (List.mem_cons_of_mem _ hx))
     rw[hln]
     show Xh5 10 (bs r)=_
     rw[p1,Xgf,Xgf,FJ.out,Xc1 _ hv]
     simp[bs]
    ·exact Xc1 _ (fun x hx=>Xga ln x (by rw[hln];show x∈Xh5 10 (bs r);rw[p1];exact List.mem_append_right _ (List.mem_cons_of_mem _ hx))))
   clear CU hln haf hen hd b1 ix hb hrb hvb
   go_wp2_with fail
   refine CP.out.mono ?_
   rintro e w2 ⟨x,ok,rfl,hxz,hcp,rfl⟩
   have STL:Hid (∀cn:Cn,cn.Ok→Xc3 cn.p=0→Xbd cn.p=bs s→en=true∧ok=true∧bs af=tlF cn.p (j+1)∧bs x=(Xa4 cn.p).getD j []):=Hd (fun cn h1 h2 h3=>by
    obtain⟨q1,q2,v,q3,q4⟩:=LNL.out cn h1 h2 h3
    obtain⟨q5,q6⟩:=hcp v q3
    exact⟨q1,q5,q2,by rw[q6];exact q4⟩)
   clear LNL hcp CP
   cases en
   ·have NOT:Hid (∀cn:Cn,cn.Ok→Xc3 cn.p=0→Xbd cn.p≠bs s):=Hd (fun cn h1 h2 h3=>by have:=(STL.out cn h1 h2 h3).1;cases this)
    clear STL hlaw
    obtain⟨st,rs,bb,hin⟩:=Xhy w w2 zs Z0.out (R1.out) (B1.out)
    have ST:=Hd st;have RES:=Hd rs
    have POST:Hid (Xex s w (.returned (.tuple #[.agg (cn0.cells (.slice none 0 0) (.slice none 0 0)),.int .i64 3])) ((w2).setRow w.heap.size (cn0.cells (.slice none 0 0) (.slice none 0 0)))):=Hd ⟨cn0,.slice none 0 0,.slice none 0 0,3,rfl,hin,.inr ⟨rfl,rfl,rfl,rfl,NOT.out⟩,bb⟩
    clear st rs bb hin NOT
    obtain⟨zc,hzc⟩:∃x,x=cn0.cells (.slice none 0 0) (.slice none 0 0):=⟨_,rfl⟩
    rw[←hzc] at ST RES POST
    have BK:Hid (∀w,(Instr.build 37 #[]).run Tryz.prog w=.ok (.agg zc) w):=Hd (fun w=>by rw[hzc];kernel_rfl)
    clear hzc
    go_wp2_with (first|((with_reducible refine Xae 37 rfl rfl ?_);refine⟨_,BK.out _,?_⟩)|((with_reducible refine Xab 37 rfl _ _ rfl ?_);refine⟨_,_,_,rfl,rfl,ST.out,?_⟩))
    exact bodyPost_ret (RES.out _ rfl) rfl POST.out
   cases ok
   ·have NOT:Hid (∀cn:Cn,cn.Ok→Xc3 cn.p=0→Xbd cn.p≠bs s):=Hd (fun cn h1 h2 h3=>by have:=(STL.out cn h1 h2 h3).2.1;cases this)
    clear STL hlaw
    obtain⟨st,rs,bb,hin⟩:=Xhy w w2 zs Z0.out (R1.out) (B1.out)
    have ST:=Hd st;have RES:=Hd rs
    have POST:Hid (Xex s w (.returned (.tuple #[.agg (cn0.cells (.slice none 0 0) (.slice none 0 0)),.int .i64 3])) ((w2).setRow w.heap.size (cn0.cells (.slice none 0 0) (.slice none 0 0)))):=Hd ⟨cn0,.slice none 0 0,.slice none 0 0,3,rfl,hin,.inr ⟨rfl,rfl,rfl,rfl,NOT.out⟩,bb⟩
    clear st rs bb hin NOT
    obtain⟨zc,hzc⟩:∃x,x=cn0.cells (.slice none 0 0) (.slice none 0 0):=⟨_,rfl⟩
    rw[←hzc] at ST RES POST
    have BK:Hid (∀w,(Instr.build 37 #[]).run Tryz.prog w=.ok (.agg zc) w):=Hd (fun w=>by rw[hzc];kernel_rfl)
    clear hzc
    go_wp2_with (first|((with_reducible refine Xae 37 rfl rfl ?_);refine⟨_,BK.out _,?_⟩)|((with_reducible refine Xab 37 rfl _ _ rfl ?_);refine⟨_,_,_,rfl,rfl,ST.out,?_⟩))
    exact bodyPost_ret (RES.out _ rfl) rfl POST.out
   have jl:j<vl.length:=by rw[hvl.out.1];exact hlt
   have hcell:w2.cell? ⟨w.heap.size+1,j,none⟩=some (.string vl[j]):=by rw[cell_of_row w2 _ j _ _ _ V1.out];simp[jl]
   have hfr:w2.frozen? ⟨w.heap.size+1,j,none⟩=false:=by have:=V1.out;simp[World.frozen?,this]
   have V2:Hid ((w2.setCell ⟨w.heap.size+1,j,none⟩ (.string x)).heap[w.heap.size+1]?=some (.cells ((vl.set j x).map Value.string).toArray 101 (0,0))):=Hd (by
    have:=Xd0 V1.out j (.string x)
    rw[List.setIfInBounds_toArray,←List.map_set] at this;exact this)
   have R2:Hid ((w2.setCell ⟨w.heap.size+1,j,none⟩ (.string x)).heap[w.heap.size]?=some (.cells zs 37 (0,0))):=Hd (by
    rw[Below.heap_setCell _ _ _ _ (show w.heap.size≠w.heap.size+1 by omega)];exact R1.out)
   have B2:=Hd (B1.out.setCell (p:=⟨w.heap.size+1,j,none⟩) (Nat.le_succ _) (.string x))
   have VL2:Hid ((vl.set j x).length=11∧∀v∈vl.set j x,v.size≤100000):=Hd ⟨by rw[List.length_set];exact hvl.out.1,fun v hv=>by
    rcases List.mem_or_eq_of_mem_set hv with h|h
    ·exact hvl.out.2 v h
    ·rw[h];omega⟩
   have LAW2:Hid (∀cn:Cn,cn.Ok→Xc3 cn.p=0→Xbd cn.p=bs s→bs af=tlF cn.p (j+1)∧((vl.set j x).take (j+1)).map bs=(Xa4 cn.p).take (j+1)):=Hd (fun cn h1 h2 h3=>by
    obtain⟨_,_,q3,q4⟩:=STL.out cn h1 h2 h3
    obtain⟨_,q5⟩:=hlaw.out cn h1 h2 h3
    refine⟨q3,?_⟩
    have jf:j<(Xa4 cn.p).length:=by simp[Xa4];omega
    rw[List.take_succ_eq_append_getElem (by rw[List.length_set];exact jl),List.take_succ_eq_append_getElem jf,List.take_set_of_le (Nat.le_refl _),List.map_append,q5]
    simp[q4,List.getD,jf])
   have afz2:af.size≤s.size:=by omega
   clear STL hlaw hvl V1 R1 B1 hxz afz hlz hrz
   go_wp2_with fail
   go_roundg (11-(j+1))
   case measure=>omega
   case rel=>exact⟨j+1,af,vl.set j x,by omega,rfl,rfl,by go_num,afz2,LAW2,VL2,V2,R2,B2⟩
  ·obtain rfl:j=11:=by omega
   have d1:decide ((11:Int)<11)=false:=by decide
   have CP:=Hd (Xs5 r ⟨#[10]⟩ wr)
   have LAWE:Hid (∀cn:Cn,cn.Ok→Xc3 cn.p=0→Xbd cn.p=bs s→r=(⟨#[10]⟩:ByteArray)++cn.body∧vl.map bs=Xa4 cn.p):=Hd (fun cn h1 h2 h3=>by
    obtain⟨q1,q2⟩:=hlaw.out cn h1 h2 h3
    rw[Yed] at q1
    refine⟨Xgm (by rw[q1,Xgf];rfl),?_⟩
    rw[List.take_of_length_le (by rw[hvl.out.1];exact Nat.le_refl _),List.take_of_length_le (by simp[Xa4])] at q2
    exact q2)
   clear hlaw IX
   go_wp2_with fail
   refine CP.out.mono ?_
   rintro e w2 ⟨bo,ok,rfl,hbz,hcp,rfl⟩
   have LAWB:Hid (∀cn:Cn,cn.Ok→Xc3 cn.p=0→Xbd cn.p=bs s→ok=true∧FvGood cn vl bo):=Hd (fun cn h1 h2 h3=>by
    obtain⟨q1,q2⟩:=LAWE.out cn h1 h2 h3
    obtain⟨q3,q4⟩:=hcp cn.body q1
    exact⟨q3,h1,h2,q2,q4⟩)
   clear hcp CP LAWE
   cases ok
   ·have NOT:Hid (∀cn:Cn,cn.Ok→Xc3 cn.p=0→Xbd cn.p≠bs s):=Hd (fun cn h1 h2 h3=>by have:=(LAWB.out cn h1 h2 h3).1;cases this)
    clear LAWB
    obtain⟨st,rs,bb,hin⟩:=Xhy w w2 zs Z0.out (hrb.out) (hb.out)
    have ST:=Hd st;have RES:=Hd rs
    have POST:Hid (Xex s w (.returned (.tuple #[.agg (cn0.cells (.slice none 0 0) (.slice none 0 0)),.int .i64 3])) ((w2).setRow w.heap.size (cn0.cells (.slice none 0 0) (.slice none 0 0)))):=Hd ⟨cn0,.slice none 0 0,.slice none 0 0,3,rfl,hin,.inr ⟨rfl,rfl,rfl,rfl,NOT.out⟩,bb⟩
    clear st rs bb hin NOT
    obtain⟨zc,hzc⟩:∃x,x=cn0.cells (.slice none 0 0) (.slice none 0 0):=⟨_,rfl⟩
    rw[←hzc] at ST RES POST
    have BK:Hid (∀w,(Instr.build 37 #[]).run Tryz.prog w=.ok (.agg zc) w):=Hd (fun w=>by rw[hzc];kernel_rfl)
    clear hzc
    go_wp2_with (first|((with_reducible refine Xae 37 rfl rfl ?_);refine⟨_,BK.out _,?_⟩)|((with_reducible refine Xab 37 rfl _ _ rfl ?_);refine⟨_,_,_,rfl,rfl,ST.out,?_⟩))
    exact bodyPost_ret (RES.out _ rfl) rfl POST.out
   obtain⟨v0,v1,v2,v3,v4,v5,v6,v7,v8,v9,v10,rfl⟩:=Yhr hvl.out.1
   have LD:=Hd (run_loadVar_row (P:=Tryz.prog) w2 (w.heap.size+1) _ 101 _ _ _ hvb.out Tryz.underlying101 rfl Yag)
   have FV:=Hd (Yh9 w2 v0 v1 v2 v3 v4 v5 v6 v7 v8 v9 v10 bo hvl.out.2 (by omega) (HE.out.on hb.out))
   have R2:=hrb;have B2:=hb
   clear hvl hvb hrb hb
   go_wp2_with ((with_reducible refine Xac 101 rfl _ rfl ?_);refine⟨_,_,rfl,LD.out,?_⟩)
   refine FV.out.mono ?_
   rintro e w3 ⟨c,gv,rv,z,rfl,hin,hgood,hgo,hro,hb3⟩
   obtain⟨w4,hw4⟩:∃w4,w4=w3.alloc (.cells (c.cells gv rv) 37):=⟨_,rfl⟩
   have hb4:Below w3.heap.size w3 w4:=by rw[hw4];exact(Below.refl _ _).alloc (Nat.le_refl _) _
   have R3:=(hb3.block _ (lt_of_block R2.out)).trans R2.out
   have R4:=Hd ((hb4.block _ (lt_of_block R3)).trans R3)
   have B3:=B2.out.trans (hb3.mono B2.out.size)
   have B4:=Hd (B3.trans (hb4.mono B3.size))
   have IN4:=Hd (hin.on hb4)
   have OK:=hin.ok
   have GRO:Hid ((∀k,gv.ownBlock=some k→w.heap.size<k)∧∀k,rv.ownBlock=some k→w.heap.size<k):=Hd ⟨fun k hk=>by have:=hgo k hk;have:=lt_of_block R2.out;omega,fun k hk=>by have:=hro k hk;have:=lt_of_block R2.out;omega⟩
   have LAWC:Hid (∀cn:Cn,cn.Ok→Xc3 cn.p=0→Xbd cn.p=bs s→z=0∧c.p=cn.p):=Hd (fun cn h1 h2 h3=>hgood cn (LAWB.out cn h1 h2 h3).2)
   obtain⟨cs,hcs⟩:∃x,x=c.cells gv rv:=⟨_,rfl⟩
   have CSZ:Hid (cs.size=75):=Hd (by rw[hcs];exact Xb1 OK _ _)
   have ONE:Hid (cs.all (·.oneCell')=true):=Hd (by
    rw[hcs]
    obtain⟨_,_,e1,_⟩:=hin.srow
    obtain⟨_,_,e2,_⟩:=hin.irow
    exact Xc0 _ _ _ (by rw[e1];rfl) (by rw[e2];rfl))
   have STN:Hid ((storeVar 37 ⟨w3.heap.size,0,none⟩ (.agg cs)).run Tryz.prog (w3.alloc (.cells (Tryz.zeroCells37) 37))=.ok () w4):=Hd (by
    rw[hw4,←hcs]
    exact run_storeVar_new w3 37 _ cs (by rw[CSZ.out];exact Xb3) (by rw[CSZ.out];kernel_rfl) ONE.out)
   have Q4:Hid (w4.heap[w3.heap.size]?=some (.cells cs 37 (0,0))):=Hd (by rw[hw4,←hcs];exact heap_alloc_last w3 _)
   have GW:Hid (w.heap.size<w3.heap.size):=Hd (lt_of_block R3)
   rw[←hcs]
   have HCS:=Hd hcs
   clear hb3 hb4 R3 B3 hin hgood hgo hro hcs hw4 LAWB R2 B2 FV LD
   go_upto_region 18 with((with_reducible refine Xab 37 rfl _ _ rfl ?_);refine⟨_,_,_,rfl,rfl,STN.out,?_⟩)
   clear STN
   obtain⟨g,hg⟩:∃g,g=w3.heap.size:=⟨_,rfl⟩
   rw[←hg] at Q4 GW⊢
   clear hg
   by_cases hz:z≠0
   ·have q1:(z !=0)=true:=by simpa using hz
    have NOT:Hid (∀cn:Cn,cn.Ok→Xc3 cn.p=0→Xbd cn.p≠bs s):=Hd (fun cn h1 h2 h3=>hz (LAWC.out cn h1 h2 h3).1)
    clear LAWC
    obtain⟨st,rs,bb,hin⟩:=Xhy w w4 zs Z0.out (R4.out) (B4.out)
    have ST:=Hd st;have RES:=Hd rs
    have POST:Hid (Xex s w (.returned (.tuple #[.agg (cn0.cells (.slice none 0 0) (.slice none 0 0)),.int .i64 3])) ((w4).setRow w.heap.size (cn0.cells (.slice none 0 0) (.slice none 0 0)))):=Hd ⟨cn0,.slice none 0 0,.slice none 0 0,3,rfl,hin,.inr ⟨rfl,rfl,rfl,rfl,NOT.out⟩,bb⟩
    clear st rs bb hin NOT
    obtain⟨zc,hzc⟩:∃x,x=cn0.cells (.slice none 0 0) (.slice none 0 0):=⟨_,rfl⟩
    rw[←hzc] at ST RES POST
    have BK:Hid (∀w,(Instr.build 37 #[]).run Tryz.prog w=.ok (.agg zc) w):=Hd (fun w=>by rw[hzc];kernel_rfl)
    clear hzc
    go_wp2_with (first|((with_reducible refine Xae 37 rfl rfl ?_);refine⟨_,BK.out _,?_⟩)|((with_reducible refine Xab 37 rfl _ _ rfl ?_);refine⟨_,_,_,rfl,rfl,ST.out,?_⟩))
    exact bodyPost_ret (RES.out _ rfl) rfl POST.out
   have hz0:z=0:=by simpa using hz
   subst hz0
   clear hz
   have FMX:=Hd (Xiy w4 c gv rv IN4.out (fun h0=>Xly IN4.out.ok (by have:=Xok (Xkq h0).1;have e:c.p.groups.length=c.groups.length:=List.length_map ..;omega) (Xvx (Xf1 h0) (Xok (Xkq h0).1)) (by have:=(Xwr (Xkq h0).2.1).1;show c.refs.length≤30;have e:c.p.refs.length=c.refs.length:=rfl;omega) (by have:=IN4.out.name;have:=IN4.out.subject;have:=IN4.out.ctl;have:=IN4.out.dist;omega) IN4.out.body h0) (HE.out.on B4.out))
   obtain⟨k,hk⟩:∃k,k=Xc3 c.p:=⟨_,rfl⟩
   obtain⟨S,hS⟩:∃S,S=Xaq (if Xc3 c.p=0 then Xbd c.p else[]):=⟨_,rfl⟩
   unfold Ycz at FMX
   rw[←hk,←HCS.out] at FMX
   rw[hk,←hS,←hk] at FMX
   have LD4:=Hd (run_loadVar_row (P:=Tryz.prog) w4 g _ 37 _ _ _ Q4.out Tryz.underlying37 rfl (by rw[CSZ.out];exact Xb3))
   have HK:=Hd hk;have HS:=Hd hS
   clear hk hS
   go_upto_region 20 with fail
   refine wp_region_list ?_
   simp only[]
   refine Xac 37 rfl _ rfl ⟨_,_,rfl,LD4.out,?_⟩
   go_wp2_with fail
   refine FMX.out.mono ?_
   rintro e w5 ⟨rfl,hb5⟩
   have R5:=Hd ((hb5.block _ (lt_of_block R4.out)).trans R4.out)
   have B5:=Hd (B4.out.trans (hb5.mono B4.out.size))
   have Q5:=Hd ((hb5.block _ (lt_of_block Q4.out)).trans Q4.out)
   have IN5:=Hd (IN4.out.on hb5)
   clear FMX hb5 LD4 R4 B4 Q4
   by_cases hk0:k≠0
   ·have q1:((k:Int) !=0)=true:=Xam (by omega)
    have NOT:Hid (∀cn:Cn,cn.Ok→Xc3 cn.p=0→Xbd cn.p≠bs s):=Hd (fun cn h1 h2 h3=>hk0 (by rw[HK.out,(LAWC.out cn h1 h2 h3).2];exact h2))
    clear LAWC hk0
    obtain⟨st,rs,bb,hin⟩:=Xhy w w5 zs Z0.out (R5.out) (B5.out)
    have ST:=Hd st;have RES:=Hd rs
    have POST:Hid (Xex s w (.returned (.tuple #[.agg (cn0.cells (.slice none 0 0) (.slice none 0 0)),.int .i64 3])) ((w5).setRow w.heap.size (cn0.cells (.slice none 0 0) (.slice none 0 0)))):=Hd ⟨cn0,.slice none 0 0,.slice none 0 0,3,rfl,hin,.inr ⟨rfl,rfl,rfl,rfl,NOT.out⟩,bb⟩
    clear st rs bb hin NOT
    obtain⟨zc,hzc⟩:∃x,x=cn0.cells (.slice none 0 0) (.slice none 0 0):=⟨_,rfl⟩
    rw[←hzc] at ST RES POST
    have BK:Hid (∀w,(Instr.build 37 #[]).run Tryz.prog w=.ok (.agg zc) w):=Hd (fun w=>by rw[hzc];kernel_rfl)
    clear hzc
    go_wp2_with (first|((with_reducible refine Xae 37 rfl rfl ?_);refine⟨_,BK.out _,?_⟩)|((with_reducible refine Xab 37 rfl _ _ rfl ?_);refine⟨_,_,_,rfl,rfl,ST.out,?_⟩))
    exact bodyPost_ret (RES.out _ rfl) rfl POST.out
   have k00:k=0:=by simpa using hk0
   have q1:((k:Int) !=0)=false:=Xat (by omega)
   have H0:Hid (Xc3 c.p=0):=Hd (by rw[←HK.out];exact k00)
   have SF:Hid (S=Xaq (Xbd c.p)):=Hd (by rw[HS.out,if_pos H0.out])
   clear hk0 k00 HK
   by_cases hss:S=s
   ·have q2:(S.toList==s.toList)=true:=by rw[hss];exact beq_self_eq_true _
    obtain⟨st,rs,bb⟩:=Xs7 w w5 cs CSZ.out ONE.out (by rw[←Z0.out];exact R5.out) B5.out
    have ST:=Hd st;have RES:=Hd rs
    have fr:Fr1 w.heap.size w5 (w5.setRow w.heap.size cs):=⟨rfl,rfl,rfl,by simp[World.setRow],fun k _ hne=>setRow_other w5 w.heap.size k cs hne⟩
    have LD5:=Hd (run_loadVar_row (P:=Tryz.prog) w5 g _ 37 _ _ _ Q5.out Tryz.underlying37 rfl (by rw[CSZ.out];exact Xb3))
    have POST:Hid (Xex s w (.returned (.tuple #[.agg cs,.int .i64 0])) (w5.setRow w.heap.size cs)):=Hd ⟨c,gv,rv,0,by rw[HCS.out],⟨IN5.out.ok,IN5.out.name,IN5.out.subject,IN5.out.ctl,IN5.out.dist,IN5.out.body,IN5.out.gl,IN5.out.gz,IN5.out.rl,IN5.out.srow.fr fr (fun k hk=>by have:=GRO.out.1 k hk;omega),IN5.out.irow.fr fr (fun k hk=>by have:=GRO.out.2 k hk;omega)⟩,.inl ⟨rfl,H0.out,by rw[←SF.out];exact hss⟩,bb⟩
    clear st rs bb fr hss
    go_upto_region 23 with fail
    refine wp_region_list ?_
    simp only[]
    refine Xac 37 rfl _ rfl ⟨_,_,rfl,LD5.out,?_⟩
    go_wp2_with ((with_reducible refine Xab 37 rfl _ _ rfl ?_);refine⟨_,_,_,rfl,rfl,ST.out,?_⟩)
    exact bodyPost_ret (RES.out _ rfl) rfl POST.out
   ·have q2:(S.toList==s.toList)=false:=by
       rw[beq_eq_false_iff_ne,ByteArray.toList_eq,ByteArray.toList_eq]
       exact fun h=>hss (ByteArray.ext (Array.toList_inj.1 h))
    have NOT:Hid (∀cn:Cn,cn.Ok→Xc3 cn.p=0→Xbd cn.p≠bs s):=Hd (fun cn h1 h2 h3=>hss (by rw[SF.out,(LAWC.out cn h1 h2 h3).2,h3,Xds]))
    clear LAWC hss
    obtain⟨st,rs,bb,hin⟩:=Xhy w w5 zs Z0.out (R5.out) (B5.out)
    have ST:=Hd st;have RES:=Hd rs
    have POST:Hid (Xex s w (.returned (.tuple #[.agg (cn0.cells (.slice none 0 0) (.slice none 0 0)),.int .i64 3])) ((w5).setRow w.heap.size (cn0.cells (.slice none 0 0) (.slice none 0 0)))):=Hd ⟨cn0,.slice none 0 0,.slice none 0 0,3,rfl,hin,.inr ⟨rfl,rfl,rfl,rfl,NOT.out⟩,bb⟩
    clear st rs bb hin NOT
    obtain⟨zc,hzc⟩:∃x,x=cn0.cells (.slice none 0 0) (.slice none 0 0):=⟨_,rfl⟩
    rw[←hzc] at ST RES POST
    have BK:Hid (∀w,(Instr.build 37 #[]).run Tryz.prog w=.ok (.agg zc) w):=Hd (fun w=>by rw[hzc];kernel_rfl)
    clear hzc
    go_wp2_with (first|((with_reducible refine Xae 37 rfl rfl ?_);refine⟨_,BK.out _,?_⟩)|((with_reducible refine Xab 37 rfl _ _ rfl ?_);refine⟨_,_,_,rfl,rfl,ST.out,?_⟩))
    exact bodyPost_ret (RES.out _ rfl) rfl POST.out
end Go.Proofs.YtohmdledkhgdaaaGreatDoor
/- Plain: the reference's characters (bulletinref03) are those of UP and TP. -/
namespace Go.Proofs.YtohmdledkhgdaaaGreatDoor
set_option linter.unusedVariables false
def ldN (c:Nat):Nat:=if c<128 then 1 else if 192≤c∧c<224 then 2 else if 224≤c∧c<240 then 3 else if 240≤c∧c<248 then 4 else 0
def ldV (c:Nat):Nat:=if c<128 then c else if 192≤c∧c<224 then c-192 else if 224≤c∧c<240 then c-224 else if 240≤c∧c<248 then c-240 else 0
def bgV (l:List Nat) (k:Nat):Nat:=((l.take k).drop 1).foldl (fun v x=>64*v+(x-128)) (ldV (l.getD 0 0))
def bgC (l:List Nat) (k:Nat):Bool:=((l.take k).drop 1).all (fun x=>decide (128≤x)&&decide (x≤191))
def Xg5 (n:Nat):Nat:=[0,0,128,2048,65536].getD n 0
def Xmt (n:Nat):Nat:=[0,127,2047,65535,1114111].getD n 0
def Yf8 (l:List Nat):Nat:=max (bgV l l.length*64^(ldN (l.getD 0 0)-l.length)) (Xg5 (ldN (l.getD 0 0)))
def Yf9 (l:List Nat):Nat:=min ((bgV l l.length+1)*64^(ldN (l.getD 0 0)-l.length)-1) (Xmt (ldN (l.getD 0 0)))
def bgB (l:List Nat):Bool:=
 decide (ldN (l.getD 0 0)≠0)&&decide (l.length≤ldN (l.getD 0 0))&&bgC l l.length&&!(decide (55296≤Yf8 l)&&decide (Yf9 l≤57343))&&decide (Yf8 l≤Yf9 l)
theorem Yf7 (l:List Nat):bgV l 1=ldV (l.getD 0 0):=by
 cases l<;>simp[bgV]
theorem Yga (l:List Nat):bgC l 1=true:=by
 cases l<;>simp[bgC]
theorem Xfh (l:List Nat) (n:Nat) (h1:1≤n) (h:n<l.length):(l.take (n+1)).drop 1=(l.take n).drop 1++[l.getD n 0]:=by
 rw[List.take_succ_eq_append_getElem h,List.drop_append_of_le_length (by rw[List.length_take];omega)]
 simp[List.getD,h]
theorem Ycn (l:List Nat) (n:Nat) (h1:1≤n) (h:n<l.length):bgV l (n+1)=64*bgV l n+(l.getD n 0-128):=by
 unfold bgV
 rw[Xfh l n h1 h,List.foldl_append]
 rfl
theorem Yco (l:List Nat) (n:Nat) (h1:1≤n) (h:n<l.length):bgC l (n+1)=(bgC l n&&(decide (128≤l.getD n 0)&&decide (l.getD n 0≤191))):=by
 unfold bgC
 rw[Xfh l n h1 h,List.all_append]
 simp
theorem Xs9 (l:List Nat) (n:Nat) (h1:1≤n) (h:n<l.length) (hx:l.getD n 0<128∨191<l.getD n 0):bgC l l.length=false:=by
 unfold bgC
 rw[List.all_eq_false]
 refine⟨l.getD n 0,?_,?_⟩
 ·rw[List.take_length,List.mem_drop_iff_getElem]
  refine⟨n-1,by omega,?_⟩
  simp[List.getD,h,show 1+(n-1)=n by omega]
 ·simp only[Bool.and_eq_true,decide_eq_true_eq];omega
theorem Xcv (f i c:Nat):Xgl f i c=true↔(128≤c∧c≤191∧(i=1→(f=224→160≤c)∧(f=240→144≤c)∧(f=237→c≤159)∧(f=244→c≤143))):=by
 unfold Xgl
 simp only[Bool.and_eq_true,decide_eq_true_eq]
 by_cases h1:i=1
 ·subst h1
  simp only[true_and,true_implies]
  (repeat' split)<;>omega
 ·rw[if_neg (fun h=>h1 h.1),if_neg (fun h=>h1 h.1),if_neg (fun h=>h1 h.1),if_neg (fun h=>h1 h.1)]
  simp only[h1,false_implies,and_true]
theorem Yis:∀c,c<256→(bgB [c]=decide (Xf2 c≠0))∧(Xf2 c≠0→ldN c=Xf2 c):=by decide+kernel
theorem Xtq {c:Nat}:(Xf2 c=1→c≤127)∧(Xf2 c=2→194≤c∧c≤223)∧(Xf2 c=3→224≤c∧c≤239)∧(Xf2 c=4→240≤c∧c≤244):=by
 unfold Xf2
 (repeat' split)<;>omega
theorem Yf6 (l:List Nat) (hb:∀x∈l,x<256) (h0:Xf2 (l.getD 0 0)≠0) (hl:l.length=Xf2 (l.getD 0 0)):bgB l=Xb6 l∧(Xb6 l=true→bgV l l.length=cpt l):=by
 have hu:=Xtq (c:=l.getD 0 0)
 match l,hb,h0,hl,hu with
 |[],_,_,hl,_=>simp[Xf2] at hl
 |[a],hb,h0,hl,hu=>
  simp only[List.getD_cons_zero,List.length_cons,List.length_nil,Nat.zero_add] at*
  have ha:=hu.1 hl.symm
  have e1:ldN a=1:=by unfold ldN;rw[if_pos (by omega)]
  have e2:ldV a=a:=by unfold ldV;rw[if_pos (by omega)]
  have hw:Xb6 [a]=true:=by rw[Xb9];simp[←hl];omega
  refine⟨?_,fun _=>?_⟩
  ·rw[hw]
   simp[bgB,Yf8,Yf9,bgV,bgC,e1,e2,Xg5,Xmt]
   omega
  ·simp[cpt,bgV,e2,(Xfc hw).1,←hl]
 |[a,b],hb,h0,hl,hu=>
  simp only[List.getD_cons_zero,List.length_cons,List.length_nil,Nat.zero_add] at*
  have ha:=hu.2.1 hl.symm
  have e1:ldN a=2:=by unfold ldN;rw[if_neg (by omega),if_pos (by omega)]
  have e2:ldV a=a-192:=by unfold ldV;rw[if_neg (by omega),if_pos (by omega)]
  have hw:Xb6 [a,b]=true↔128≤b∧b≤191:=by
   rw[Xb9]
   simp only[List.getD_cons_zero,List.length_cons,List.length_nil,Nat.zero_add,←hl]
   constructor
   ·rintro⟨_,_,h⟩
    have:=h 1 (by omega) (by omega)
    simp[Xcv] at this
    omega
   ·intro h
    refine⟨by omega,by omega,fun i h1 h2=>?_⟩
    obtain rfl:i=1:=by omega
    simp[Xcv]
    omega
  refine⟨?_,fun h=>?_⟩
  ·rw[Bool.eq_iff_iff,hw]
   simp[bgB,Yf8,Yf9,bgV,bgC,e1,e2,Xg5,Xmt]
   omega
  ·have:=hw.1 h
   simp[cpt,bgV,e2,(Xfc h).1,←hl]
   omega
 |[a,b,c],hb,h0,hl,hu=>
  simp only[List.getD_cons_zero,List.length_cons,List.length_nil,Nat.zero_add] at*
  have ha:=hu.2.2.1 hl.symm
  have e1:ldN a=3:=by unfold ldN;rw[if_neg (by omega),if_neg (by omega),if_pos (by omega)]
  have e2:ldV a=a-224:=by unfold ldV;rw[if_neg (by omega),if_neg (by omega),if_pos (by omega)]
  have hw:Xb6 [a,b,c]=true↔128≤b∧b≤191∧128≤c∧c≤191∧(a=224→160≤b)∧(a=237→b≤159):=by
   rw[Xb9]
   simp only[List.getD_cons_zero,List.length_cons,List.length_nil,Nat.zero_add,←hl]
   constructor
   ·rintro⟨_,_,h⟩
    have h1:=h 1 (by omega) (by omega)
    have h2:=h 2 (by omega) (by omega)
    simp[Xcv] at h1 h2
    omega
   ·intro h
    refine⟨by omega,by omega,fun i h1 h2=>?_⟩
    rcases(by omega:i=1∨i=2) with rfl|rfl
    ·simp[Xcv]
     omega
    ·simp[Xcv]
     omega
  refine⟨?_,fun h=>?_⟩
  ·rw[Bool.eq_iff_iff,hw]
   simp[bgB,Yf8,Yf9,bgV,bgC,e1,e2,Xg5,Xmt]
   omega
  ·have:=hw.1 h
   simp[cpt,bgV,e2,(Xfc h).1,←hl]
   omega
 |[a,b,c,d],hb,h0,hl,hu=>
  simp only[List.getD_cons_zero,List.length_cons,List.length_nil,Nat.zero_add] at*
  have ha:=hu.2.2.2 hl.symm
  have e1:ldN a=4:=by unfold ldN;rw[if_neg (by omega),if_neg (by omega),if_neg (by omega),if_pos (by omega)]
  have e2:ldV a=a-240:=by unfold ldV;rw[if_neg (by omega),if_neg (by omega),if_neg (by omega),if_pos (by omega)]
  have hw:Xb6 [a,b,c,d]=true↔128≤b∧b≤191∧128≤c∧c≤191∧128≤d∧d≤191∧(a=240→144≤b)∧(a=244→b≤143):=by
   rw[Xb9]
   simp only[List.getD_cons_zero,List.length_cons,List.length_nil,Nat.zero_add,←hl]
   constructor
   ·rintro⟨_,_,h⟩
    have h1:=h 1 (by omega) (by omega)
    have h2:=h 2 (by omega) (by omega)
    have h3:=h 3 (by omega) (by omega)
    simp[Xcv] at h1 h2 h3
    omega
   ·intro h
    refine⟨by omega,by omega,fun i h1 h2=>?_⟩
    rcases(by omega:i=1∨i=2∨i=3) with rfl|rfl|rfl
    ·simp[Xcv]
     omega
    ·simp[Xcv]
     omega
    ·simp[Xcv]
     omega
  refine⟨?_,fun h=>?_⟩
  ·rw[Bool.eq_iff_iff,hw]
   simp[bgB,Yf8,Yf9,bgV,bgC,e1,e2,Xg5,Xmt]
   omega
  ·have:=hw.1 h
   simp[cpt,bgV,e2,(Xfc h).1,←hl]
   omega
 |a::b::c::d::e::l,_,_,hl,_=>
  have:=Xjc ((a::b::c::d::e::l).getD 0 0)
  rw[←hl] at this
  simp at this
theorem Yb1 (l:List Nat) (hb:∀x∈l,x<256) (n:Nat) (hn:n=Xf2 (l.getD 0 0)) (h0:n≠0) (hl:n≤l.length):
    bgB (l.take n)=decide (rn l≠0)∧(rn l≠0→bgV (l.take n) n=cpt l∧rn l=n):=by
 have hg:∀i,i<n→(l.take n).getD i 0=l.getD i 0:=fun i hi=>by simp[List.getD,hi]
 have g0:=hg 0 (by omega)
 have hlen:(l.take n).length=n:=by rw[List.length_take];omega
 have hw:Xb6 (l.take n)=Xb6 l:=by
  rw[Bool.eq_iff_iff,Xb9,Xb9,g0,hlen,←hn]
  constructor
  ·rintro⟨a,b,c⟩
   exact⟨a,hl,fun i h1 h2=>by rw[←hg i h2];exact c i h1 h2⟩
  ·rintro⟨a,b,c⟩
   exact⟨a,Nat.le_refl _,fun i h1 h2=>by rw[hg i h2];exact c i h1 h2⟩
 obtain⟨h1,h2⟩:=Yf6 (l.take n) (fun x hx=>hb x (List.mem_of_mem_take hx)) (by rw[g0];omega) (by rw[g0,hlen,hn])
 rw[hw] at h1 h2
 refine⟨?_,fun hr=>?_⟩
 ·rw[h1,Bool.eq_iff_iff,decide_eq_true_eq,rn_ne]
 ·have hwt:=rn_ne.1 hr
  have e1:rn l=n:=by rw[(Xfc hwt).1,hn]
  have e2:rn (l.take n)=n:=by rw[(Xfc (hw.trans hwt)).1,g0,hn]
  have h3:=h2 hwt
  rw[hlen] at h3
  refine⟨h3.trans ?_,e1⟩
  unfold cpt
  rw[e1,e2,g0,List.take_take,Nat.min_self]
theorem Yan (l:List Nat) (h:l.length<Xf2 (l.getD 0 0)):rn l=0:=Xjl (Xiq l (fun h'=>by omega))
theorem Yao (l:List Nat) (h:Xf2 (l.getD 0 0)=0):rn l=0:=Xjl (Xiq l (fun h'=>h'.1 h))
end Go.Proofs.YtohmdledkhgdaaaGreatDoor
