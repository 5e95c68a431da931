/- A map from texts to forms, its entries in any order. -/
import Derived.Test.YtohmdledkhgdaaaGreatDoorPa14
import Derived.Laws.IdiomRangeMap
import Derived.Orders
namespace Go.Proofs.YtohmdledkhgdaaaGreatDoor
open Go.RowKit Go.Maps
set_option linter.unusedVariables false
set_option maxRecDepth 100000
def Yi5 (es:Array MapEntry) (l:List (ByteArray×Value)):Prop:=es.toList.map (fun e=>(e.key,e.val))=l.map fun p=>(Value.string p.1,p.2)
def MF (w:World) (b:Nat) (l:List (ByteArray×Value)):Prop:=∃es cl,w.heap[b]?=some (.map es cl)∧∃l',Yi5 es l'∧l'.Perm l
theorem Xqp (k:ByteArray):∀(l:List (ByteArray×Value)) (es:List MapEntry) (i:Nat),es.map (fun e=>(e.key,e.val))=l.map (fun p=>(Value.string p.1,p.2))→(∀p∈l,(k==p.1)=false)→Instr.findNow .string (.string k) es i=some none
 |[],[],i,_,_=>rfl
 |p::l,e::es,i,h,hn=>by
  simp only[List.map_cons,List.cons.injEq,Prod.mk.injEq] at h
  have:=Xqp k l es (i+1) h.2 (fun q hq=>hn q (List.mem_cons_of_mem _ hq))
  simp only[Instr.findNow,h.1.1,Instr.sameNow,hn p (List.mem_cons_self ..),this]
 |[],_::_,_,h,_=>by simp at h
 |_::_,[],_,h,_=>by simp at h
theorem Xsy (k:ByteArray) (v:Value) (hk:(k==k)=true):∀(l:List (ByteArray×Value)) (es:List MapEntry) (i:Nat),es.map (fun e=>(e.key,e.val))=l.map (fun p=>(Value.string p.1,p.2))→(k,v)∈l→(∀p∈l,(k==p.1)=true→p.2=v)→∃j,Instr.findNow .string (.string k) es i=some (some (j,v))
 |p::l,e::es,i,h,hm,hu=>by
  simp only[List.map_cons,List.cons.injEq,Prod.mk.injEq] at h
  cases hq:(k==p.1) with
  |true=>
   refine⟨i,?_⟩
   simp only[Instr.findNow,h.1.1,Instr.sameNow,hq]
   rw[h.1.2,hu p (List.mem_cons_self ..) hq]
  |false=>
   have hm':(k,v)∈l:=by
    rcases List.mem_cons.1 hm with rfl|h
    ·rw[hk] at hq;cases hq
    ·exact h
   obtain⟨j,hj⟩:=Xsy k v hk l es (i+1) h.2 hm' (fun q hq=>hu q (List.mem_cons_of_mem _ hq))
   refine⟨j,?_⟩
   simp only[Instr.findNow,h.1.1,Instr.sameNow,hq,hj]
 |[],_,_,_,hm,_=>by cases hm
 |_::_,[],_,h,_,_=>by simp at h
theorem Ye1 {w:World} {b:Nat} {l:List (ByteArray×Value)} (h:MF w b l) (k:ByteArray) (v:Value) (hk:(k==k)=true) (hm:(k,v)∈l) (hu:∀p∈l,(k==p.1)=true→p.2=v):
    (Instr.lookup 203 (.map (some b)) (.string k) true).run Tryz.prog w=.ok (.tuple #[v,.bool true]) w:=by
 obtain⟨es,cl,hb,l',he,hp⟩:=h
 have hc:(Instr.checkKey es.isEmpty 10000 9 (.string k)).run Tryz.prog w=.ok () w:=MapKept.run_checkKey (k:=.string k) Tryz.underlying9 (by simp[MapKept.IsKey]) _ 9999
 obtain⟨j,hf⟩:=Xsy k v hk l' es.toList 0 he (hp.mem_iff.2 hm) (fun p hp'=>hu p (hp.mem_iff.1 hp'))
 simp[Instr.lookup,run_underlying Tryz.underlying203,MapKept.run_getObj_map hb,hc,MapKept.run_findKey Tryz.underlying9 hf,Result.andThen]
theorem Ye0 {w:World} {b:Nat} {l:List (ByteArray×Value)} (h:MF w b l) (k:ByteArray) (hn:∀p∈l,(k==p.1)=false):
    (Instr.lookup 203 (.map (some b)) (.string k) true).run Tryz.prog w=.ok (.tuple #[.nilFunc,.bool false]) w:=by
 obtain⟨es,cl,hb,l',he,hp⟩:=h
 have hc:(Instr.checkKey es.isEmpty 10000 9 (.string k)).run Tryz.prog w=.ok () w:=MapKept.run_checkKey (k:=.string k) Tryz.underlying9 (by simp[MapKept.IsKey]) _ 9999
 have hf:=Xqp k l' es.toList 0 he (fun p hp'=>hn p (hp.mem_iff.1 hp'))
 simp[Instr.lookup,run_underlying Tryz.underlying203,MapKept.run_getObj_map hb,hc,MapKept.run_findKey Tryz.underlying9 hf,Result.andThen]
theorem Yfo {es:Array MapEntry} {l:List (ByteArray×Value)} (h:Yi5 es l) (k:ByteArray) (v:Value) (n:Nat):Yi5 (es.push ⟨.string k,v,n⟩) (l++[(k,v)]):=by
 unfold Yi5 at h⊢
 rw[Array.toList_push,List.map_append,List.map_append,h]
 rfl
theorem Yhm {w:World} {b:Nat} {l:List (ByteArray×Value)} (h:MF w b l) (k:ByteArray) (v:Value) (hn:∀p∈l,(k==p.1)=false):
    ∃w',(Instr.mapUpdate 203 (.map (some b)) (.string k) v).run Tryz.prog w=.ok () w'∧MF w' b ((k,v)::l)∧Fr1 b w w':=by
 obtain⟨es,cl,hb,l',he,hp⟩:=h
 have hc:(Instr.checkKey false 10000 9 (.string k)).run Tryz.prog w=.ok () w:=MapKept.run_checkKey (k:=.string k) Tryz.underlying9 (by simp[MapKept.IsKey]) false 9999
 have hf:=Xqp k l' es.toList 0 he (fun p hp'=>hn p (hp.mem_iff.1 hp'))
 refine⟨{w with heap:=w.heap.setIfInBounds b (.map (es.push ⟨.string k,v,cl⟩) (cl+1))},?_,⟨es.push ⟨.string k,v,cl⟩,cl+1,?_,l'++[(k,v)],Yfo he k v cl,?_⟩,⟨rfl,rfl,rfl,?_,?_⟩⟩
 ·simp[Instr.mapUpdate,run_underlying Tryz.underlying203,MapKept.run_getObj_map hb,hc,MapKept.run_findKey Tryz.underlying9 hf,MapKept.run_setObj_map _ hb,Result.andThen]
 ·have hlt:b<w.heap.size:=lt_of_block hb
  simp[hlt]
 ·exact(List.perm_append_singleton _ _).trans (hp.cons _)
 ·simp
 ·intro q hq hne
  simp[Ne.symm hne]
def kN (k:Nat):ByteArray:=if k=0 then⟨#[99,97,110,99,101,108]⟩ else if k=1 then⟨#[97,112,112,114,111,118,101]⟩ else if k=2 then⟨#[100,101,102,105,110,101]⟩ else if k=3 then⟨#[114,101,109,111,118,101]⟩ else⟨#[114,101,107,101,121]⟩
def fN (k:Nat):FuncId:=if k=0 then 184 else if k=1 then 186 else if k=2 then 188 else if k=3 then 192 else 193
def fmE (k:Nat):ByteArray×Value:=(kN k,.func (.func (fN k)) #[] #[])
theorem Yht:∀j<5,∀k<5,j≠k→(kN j==kN k)=false:=by decide
theorem Yfd:∀k<5,(kN k==kN k)=true:=by decide
structure FI (w0:World) (d:Nat→Bool) (a:Act) (w:World):Prop where
 size:Below w0.heap.size w0 w
 tmps:∃v0 v1 v2 v3 v4 v5 v6 v7,a=⟨#[v0,v1,v2,v3,v4,v5,v6,v7],[]⟩∧
  (d 1=true→v2=.string (kN 0))∧(d 3=true→v3=.string (kN 1))∧(d 5=true→v4=.string (kN 2))∧(d 7=true→v5=.string (kN 3))∧(d 9=true→v6=.string (kN 4))∧
  (d 0=false→∀k,k<5→d (2*k+2)=false)∧
  (d 0=true→∃b l,v1=.map (some b)∧w0.heap.size≤b∧MF w b l∧∀p,p∈l↔∃k,k<5∧d (2*k+2)=true∧p=fmE k)∧
  (d 11=true→v7=v1)∧(d 12=true→v0=v7)
def upd (d:Nat→Bool) (i:Nat) (j:Nat):Bool:=if j=i then true else d j
theorem Ybw {listed:Array Bool} (hs:listed.size=13) {i:Nat} (hi:i<13) (j:Nat):(listed.setIfInBounds i true).getD j false=upd (fun j=>listed.getD j false) i j:=by
 unfold upd
 by_cases h:j=i
 ·subst h;simp[Array.getD,hs,hi]
 ·rw[Array.getD_eq_getD_getElem?,Array.getElem?_setIfInBounds,if_neg (Ne.symm h),if_neg h]
  show _=listed.getD j false
  rw[Array.getD_eq_getD_getElem?]
theorem Xbt {P:Program} {ops:Array Oper} {Q:Exit→Act→World→Prop} {i:Nat} {o:Oper} {K:Act→World→Prop} {a:Act} {w:World} (ho:ops[i]?=some o) (hg:o.guard=none) (h:o.wp P a w K Q):wpOp P ops Q i K a w:=by
 unfold wpOp
 simp only[ho]
 rw[if_pos (by simp[Region.wanted,hg])]
 exact .inl h
def Ydw (w:World) (e:Ending) (w':World):Prop:=∃b l,e=.returned (.map (some b))∧Below w.heap.size w w'∧w.heap.size≤b∧MF w' b l∧∀p,p∈l↔∃k,k<5∧p=fmE k
theorem Xfg {w0 w:World} {d:Nat→Bool} {a:Act} (h:FI w0 d a w) (k:Nat) (hk:k<5) (hd:d (2*k+2)=false) (h0:d 0=true) (hkey:d (2*k+1)=true):
    ∃b w',a.eval (.tmp 1)=.map (some b)∧a.eval (.tmp (k+2))=.string (kN k)∧
     (Instr.mapUpdate 203 (.map (some b)) (.string (kN k)) (.func (.func (fN k)) #[] #[])).run Tryz.prog w=.ok () w'∧FI w0 (upd d (2*k+2)) a w':=by
 obtain⟨hs,v0,v1,v2,v3,v4,v5,v6,v7,rfl,h2,h3,h4,h5,h6,h7,h8,h9,h10⟩:=h
 obtain⟨b,l,rfl,hb,hm,hl⟩:=h8 h0
 obtain⟨w',hr,hm',hf⟩:=Yhm hm (kN k) (.func (.func (fN k)) #[] #[]) (fun p hp=>by
  obtain⟨j,hj,hdj,rfl⟩:=(hl p).1 hp
  refine Yht k hk j hj ?_
  rintro rfl
  rw[hd] at hdj;cases hdj)
 have hn:∀j,j≠2*k+2→upd d (2*k+2) j=d j:=fun j hj=>by unfold upd;rw[if_neg hj]
 refine⟨b,w',rfl,?_,hr,⟨hs.trans (hf.below hs.size hb),v0,_,v2,v3,v4,v5,v6,v7,rfl,?_,?_,?_,?_,?_,?_,?_,?_,?_⟩⟩
 ·rcases(by omega:k=0∨k=1∨k=2∨k=3∨k=4) with rfl|rfl|rfl|rfl|rfl
  ·exact h2 hkey
  ·exact h3 hkey
  ·exact h4 hkey
  ·exact h5 hkey
  ·exact h6 hkey
 ·rw[hn 1 (by omega)];exact h2
 ·rw[hn 3 (by omega)];exact h3
 ·rw[hn 5 (by omega)];exact h4
 ·rw[hn 7 (by omega)];exact h5
 ·rw[hn 9 (by omega)];exact h6
 ·rw[hn 0 (by omega),h0];intro h;cases h
 ·intro _
  refine⟨b,_,rfl,hb,hm',fun p=>?_⟩
  rw[List.mem_cons,hl p]
  constructor
  ·rintro(rfl|⟨j,hj,hdj,rfl⟩)
   ·exact⟨k,hk,by unfold upd;rw[if_pos rfl],rfl⟩
   ·exact⟨j,hj,by unfold upd;split<;>first|rfl|exact hdj,rfl⟩
  ·rintro⟨j,hj,hdj,rfl⟩
   by_cases e:j=k
   ·subst e;exact .inl rfl
   ·refine .inr ⟨j,hj,?_,rfl⟩
    rw[hn _ (by omega)] at hdj;exact hdj
 ·rw[hn 11 (by omega)];exact h9
 ·rw[hn 12 (by omega)];exact h10
theorem Xkg {w0 w:World} {d:Nat→Bool} {a:Act} (h:FI w0 d a w) (k:Nat) (hk:k<5):FI w0 (upd d (2*k+1)) (a.put (some (k+2)) (.string (kN k))) w:=by
 obtain⟨hs,v0,v1,v2,v3,v4,v5,v6,v7,rfl,h2,h3,h4,h5,h6,h7,h8,h9,h10⟩:=h
 have hn:∀j,j≠2*k+1→upd d (2*k+1) j=d j:=fun j hj=>by unfold upd;rw[if_neg hj]
 have he:∀j,j<5→upd d (2*k+1) (2*j+2)=d (2*j+2):=fun j hj=>hn _ (by omega)
 have h7':upd d (2*k+1) 0=false→∀j,j<5→upd d (2*k+1) (2*j+2)=false:=by
  rw[hn 0 (by omega)];intro h j hj;rw[he j hj];exact h7 h j hj
 have h8':upd d (2*k+1) 0=true→∃b l,v1=.map (some b)∧w0.heap.size≤b∧MF w b l∧∀p,p∈l↔∃j,j<5∧upd d (2*k+1) (2*j+2)=true∧p=fmE j:=by
  rw[hn 0 (by omega)];intro h
  obtain⟨b,l,e,hb,hm,hl⟩:=h8 h
  refine⟨b,l,e,hb,hm,fun p=>(hl p).trans ?_⟩
  constructor
  ·rintro⟨j,hj,h1,h2⟩;exact⟨j,hj,by rw[he j hj];exact h1,h2⟩
  ·rintro⟨j,hj,h1,h2⟩;exact⟨j,hj,by rw[he j hj] at h1;exact h1,h2⟩
 have h11:upd d (2*k+1) 11=d 11:=hn _ (by omega)
 have h12:upd d (2*k+1) 12=d 12:=hn _ (by omega)
 rcases(by omega:k=0∨k=1∨k=2∨k=3∨k=4) with rfl|rfl|rfl|rfl|rfl
 ·exact⟨hs,v0,v1,_,v3,v4,v5,v6,v7,rfl,fun _=>rfl,by rw[hn 3 (by omega)];exact h3,by rw[hn 5 (by omega)];exact h4,by rw[hn 7 (by omega)];exact h5,by rw[hn 9 (by omega)];exact h6,h7',h8',by rw[h11];exact h9,by rw[h12];exact h10⟩
 ·exact⟨hs,v0,v1,v2,_,v4,v5,v6,v7,rfl,by rw[hn 1 (by omega)];exact h2,fun _=>rfl,by rw[hn 5 (by omega)];exact h4,by rw[hn 7 (by omega)];exact h5,by rw[hn 9 (by omega)];exact h6,h7',h8',by rw[h11];exact h9,by rw[h12];exact h10⟩
 ·exact⟨hs,v0,v1,v2,v3,_,v5,v6,v7,rfl,by rw[hn 1 (by omega)];exact h2,by rw[hn 3 (by omega)];exact h3,fun _=>rfl,by rw[hn 7 (by omega)];exact h5,by rw[hn 9 (by omega)];exact h6,h7',h8',by rw[h11];exact h9,by rw[h12];exact h10⟩
 ·exact⟨hs,v0,v1,v2,v3,v4,_,v6,v7,rfl,by rw[hn 1 (by omega)];exact h2,by rw[hn 3 (by omega)];exact h3,by rw[hn 5 (by omega)];exact h4,fun _=>rfl,by rw[hn 9 (by omega)];exact h6,h7',h8',by rw[h11];exact h9,by rw[h12];exact h10⟩
 ·exact⟨hs,v0,v1,v2,v3,v4,v5,_,v7,rfl,by rw[hn 1 (by omega)];exact h2,by rw[hn 3 (by omega)];exact h3,by rw[hn 5 (by omega)];exact h4,by rw[hn 7 (by omega)];exact h5,fun _=>rfl,h7',h8',by rw[h11];exact h9,by rw[h12];exact h10⟩
theorem Yfm {w0 w:World} {d:Nat→Bool} {a:Act} (h:FI w0 d a w) (h0:d 0=false) (h11d:d 11=false):FI w0 (upd d 0) (a.put (some 1) (.map (some w.heap.size))) (w.alloc (.map #[] 0)):=by
 obtain⟨hs,v0,v1,v2,v3,v4,v5,v6,v7,rfl,h2,h3,h4,h5,h6,h7,h8,h9,h10⟩:=h
 have hn:∀j,j≠0→upd d 0 j=d j:=fun j hj=>by unfold upd;rw[if_neg hj]
 refine⟨hs.alloc hs.size _,v0,_,v2,v3,v4,v5,v6,v7,rfl,by rw[hn 1 (by omega)];exact h2,by rw[hn 3 (by omega)];exact h3,by rw[hn 5 (by omega)];exact h4,by rw[hn 7 (by omega)];exact h5,by rw[hn 9 (by omega)];exact h6,?_,?_,?_,by rw[hn 12 (by omega)];exact h10⟩
 ·intro h;cases h
 ·intro _
  refine⟨w.heap.size,[],rfl,hs.size,⟨#[],0,heap_alloc_new w _,[],rfl,List.Perm.refl _⟩,fun p=>?_⟩
  constructor
  ·intro h;cases h
  ·rintro⟨j,hj,h1,_⟩
   rw[hn _ (by omega),h7 h0 j hj] at h1;cases h1
 ·rw[hn 11 (by omega),h11d];intro h;cases h
theorem Yfl {w0 w:World} {d:Nat→Bool} {a:Act} (h:FI w0 d a w) (h12d:d 12=false):FI w0 (upd d 11) (a.put (some 7) (a.eval (.tmp 1))) w:=by
 obtain⟨hs,v0,v1,v2,v3,v4,v5,v6,v7,rfl,h2,h3,h4,h5,h6,h7,h8,h9,h10⟩:=h
 have hn:∀j,j≠11→upd d 11 j=d j:=fun j hj=>by unfold upd;rw[if_neg hj]
 refine⟨hs,v0,v1,v2,v3,v4,v5,v6,_,rfl,by rw[hn 1 (by omega)];exact h2,by rw[hn 3 (by omega)];exact h3,by rw[hn 5 (by omega)];exact h4,by rw[hn 7 (by omega)];exact h5,by rw[hn 9 (by omega)];exact h6,?_,?_,fun _=>rfl,?_⟩
 ·rw[hn 0 (by omega)];intro h j hj;rw[hn _ (by omega)];exact h7 h j hj
 ·rw[hn 0 (by omega)];intro h
  obtain⟨b,l,e,hb,hm,hl⟩:=h8 h
  refine⟨b,l,e,hb,hm,fun p=>(hl p).trans ?_⟩
  constructor
  ·rintro⟨j,hj,h1,h2⟩;exact⟨j,hj,by rw[hn _ (by omega)];exact h1,h2⟩
  ·rintro⟨j,hj,h1,h2⟩;exact⟨j,hj,by rw[hn _ (by omega)] at h1;exact h1,h2⟩
 ·rw[hn 12 (by omega),h12d];intro h;cases h
theorem Xye {w0 w:World} {d:Nat→Bool} {a:Act} (h:FI w0 d a w):FI w0 (upd d 12) (a.put (some 0) (a.eval (.tmp 7))) w:=by
 obtain⟨hs,v0,v1,v2,v3,v4,v5,v6,v7,rfl,h2,h3,h4,h5,h6,h7,h8,h9,h10⟩:=h
 have hn:∀j,j≠12→upd d 12 j=d j:=fun j hj=>by unfold upd;rw[if_neg hj]
 refine⟨hs,_,v1,v2,v3,v4,v5,v6,v7,rfl,by rw[hn 1 (by omega)];exact h2,by rw[hn 3 (by omega)];exact h3,by rw[hn 5 (by omega)];exact h4,by rw[hn 7 (by omega)];exact h5,by rw[hn 9 (by omega)];exact h6,?_,?_,by rw[hn 11 (by omega)];exact h9,fun _=>rfl⟩
 ·rw[hn 0 (by omega)];intro h j hj;rw[hn _ (by omega)];exact h7 h j hj
 ·rw[hn 0 (by omega)];intro h
  obtain⟨b,l,e,hb,hm,hl⟩:=h8 h
  refine⟨b,l,e,hb,hm,fun p=>(hl p).trans ?_⟩
  constructor
  ·rintro⟨j,hj,h1,h2⟩;exact⟨j,hj,by rw[hn _ (by omega)];exact h1,h2⟩
  ·rintro⟨j,hj,h1,h2⟩;exact⟨j,hj,by rw[hn _ (by omega)] at h1;exact h1,h2⟩
theorem Xdv {P:Program} {o:Oper} {a:Act} {w w':World} {t:TypeId} {m k x:Operand} {vm vk vx:Value} (ho:o.op=.insert t m k x) (h1:a.eval m=vm) (h2:a.eval k=vk) (h3:a.eval x=vx) (h:(Instr.mapUpdate t vm vk vx).run P w=.ok () w'):
    (execOp a.eval o).run P w=.ok .skip w':=by
 unfold execOp
 simp only[ho,h1,h2,h3,Sem.run_bind,h,Result.andThen_ok,Sem.run_pure]
theorem Xem {w0 w:World} {d d':Nat→Bool} {a:Act} (h:FI w0 d a w) (e:∀j,d' j=d j):FI w0 d' a w:=by
 have:d'=d:=funext e
 rw[this];exact h
theorem Xox {P:Program} {o:Oper} {a:Act} {w:World} {t:TypeId} (ho:o.op=.makeMap t none):(execOp a.eval o).run P w=.ok (.value (.map (some w.heap.size))) (w.alloc (.map #[] 0)):=by
 unfold execOp
 simp[ho,run_makeMap]
theorem Xyj {P:Program} {o:Oper} {a:Act} {w:World} {x:Operand} (ho:o.op=.move x):(execOp a.eval o).run P w=.ok (.value (a.eval x)) w:=by
 unfold execOp
 simp[ho]
theorem Xkh {P:Program} {o:Oper} {a:Act} {w:World} {x:Operand} (ho:o.op=.assign x):(execOp a.eval o).run P w=.ok (.value (a.eval x)) w:=by
 unfold execOp
 simp[ho]
theorem Xi8 {K:Act→World→Prop} {Q:Exit→Act→World→Prop} {a:Act} {w:World} {o:Oper} {k:Int} {v:Value} (ho:o.op=.call {callee:=.value (.func 183),args:=#[.const (.int .i64 k)],argTypes:=#[3]})
    (hc:Calls Tryz.prog 183 #[.int .i64 k] w fun e w'=>e=.returned v∧w'=w) (h:K (a.put o.dst v) w):o.wp Tryz.prog a w K Q:=by
 obtain⟨dst,op,ty,pos,after,guard⟩:=o
 simp only at ho
 subst ho
 go_simp
 exact hc.mono fun e w' he=>by obtain⟨rfl,rfl⟩:=he;exact h
theorem Xbu {md:Region.Mode} {ops:Array Oper} {listed:Array Bool} (hr:Region.ready md ops listed=[]) {i:Nat} {o:Oper} (ho:ops[i]?=some o) (hlt:i<listed.size) (hall:∀e∈o.after,listed.getD e.on false=true):listed.getD i false=true:=by
 cases h:listed.getD i false with
 |true=>rfl
 |false=>
  have hm:i∈Region.ready md ops listed:=mem_ready.2 ⟨by simpa [Array.getD,hlt] using h,o,ho,fun e he _=>hall e he⟩
  rw[hr] at hm;cases hm
theorem Xcd {K:Act→World→Prop} {Q:Exit→Act→World→Prop} {P:Program} {a:Act} {w w':World} {o:Oper} (h:(execOp a.eval o).run P w=.ok .skip w') (hk:K (a.put o.dst undef) w'):o.wp P a w K Q:=by
 unfold Oper.wp;rw[h];exact hk
theorem Xb0 {K:Act→World→Prop} {Q:Exit→Act→World→Prop} {P:Program} {a:Act} {w w':World} {o:Oper} {v:Value} (h:(execOp a.eval o).run P w=.ok (.value v) w') (hk:K (a.put o.dst v) w'):o.wp P a w K Q:=by
 unfold Oper.wp;rw[h];exact hk
set_option maxHeartbeats 2000000 in
theorem Xu7 (w:World):Calls Tryz.prog 145 #[] w (Ydw w):=by
 go_enter Tryz.func145,Tryz.ntmps145
 go_wp2_with fail
 refine wp_region_any (by kernel_rfl) ?_
 refine Xno (fun listed a w'=>listed.size=13∧FI w (fun j=>listed.getD j false) a w'∧(listed.getD 11 false=true→listed.getD 0 false=true)∧(listed.getD 12 false=true→listed.getD 11 false=true)) ?_ ?_ _ _ _ _ ⟨by simp,?_,by simp,by simp⟩ ?_
 ·rintro listed a w1 i ⟨hs,hI,O1,O2⟩ hr
  obtain⟨h0,o,ho,hall⟩:=mem_ready.1 hr
  refine⟨h0,?_⟩
  have hi:i<13:=by have:=(Array.getElem?_eq_some_iff.1 ho).1;simpa using this
  have h0':listed.getD i false=false:=by simpa [Array.getD,hs,hi] using h0
  have UP:∀j,(listed.setIfInBounds i true).getD j false=upd (fun j=>listed.getD j false) i j:=fun j=>Ybw hs hi j
  have SZ:(listed.setIfInBounds i true).size=13:=by simp[hs]
  have ORD:i≠11→i≠12→((listed.setIfInBounds i true).getD 11 false=true→(listed.setIfInBounds i true).getD 0 false=true)∧((listed.setIfInBounds i true).getD 12 false=true→(listed.setIfInBounds i true).getD 11 false=true):=by
   intro n1 n2
   rw[UP,UP,UP]
   unfold upd
   rw[if_neg (Ne.symm n1),if_neg (Ne.symm n2)]
   refine⟨fun h=>?_,O2⟩
   split
   ·rfl
   ·exact O1 h
  clear hr
  rcases(by omega:i=0∨i=1∨i=2∨i=3∨i=4∨i=5∨i=6∨i=7∨i=8∨i=9∨i=10∨i=11∨i=12) with rfl|rfl|rfl|rfl|rfl|rfl|rfl|rfl|rfl|rfl|rfl|rfl|rfl
  ·have hq:=ho
   simp only[List.getElem?_toArray,List.getElem?_cons_zero,Option.some.injEq] at hq
   subst hq
   have h11:listed.getD 11 false=false:=by
    cases hq:listed.getD 11 false
    ·rfl
    ·rw[O1 hq] at h0';cases h0'
   exact Xbt ho rfl (Xb0 (Xox rfl) ⟨SZ,Xem (Yfm hI h0' h11) UP,ORD (by decide) (by decide)⟩)
  ·have hq:=ho
   simp only[List.getElem?_toArray,List.getElem?_cons_zero,List.getElem?_cons_succ,Option.some.injEq] at hq
   subst hq
   exact Xbt ho rfl (Xi8 rfl (Yjl w1) ⟨SZ,Xem (Xkg hI 0 (by omega)) UP,ORD (by decide) (by decide)⟩)
  ·have hq:=ho
   simp only[List.getElem?_toArray,List.getElem?_cons_zero,List.getElem?_cons_succ,Option.some.injEq] at hq
   subst hq
   obtain⟨b,w2,e1,e2,e3,e4⟩:=Xfg hI 0 (by omega) h0' (hall ⟨0,.data⟩ (by simp) rfl) (hall ⟨1,.data⟩ (by simp) rfl)
   exact Xbt ho rfl (Xcd (Xdv rfl e1 e2 rfl e3) ⟨SZ,Xem e4 UP,ORD (by decide) (by decide)⟩)
  ·have hq:=ho
   simp only[List.getElem?_toArray,List.getElem?_cons_zero,List.getElem?_cons_succ,Option.some.injEq] at hq
   subst hq
   exact Xbt ho rfl (Xi8 rfl (Yjk w1) ⟨SZ,Xem (Xkg hI 1 (by omega)) UP,ORD (by decide) (by decide)⟩)
  ·have hq:=ho
   simp only[List.getElem?_toArray,List.getElem?_cons_zero,List.getElem?_cons_succ,Option.some.injEq] at hq
   subst hq
   obtain⟨b,w2,e1,e2,e3,e4⟩:=Xfg hI 1 (by omega) h0' (hall ⟨0,.data⟩ (by simp) rfl) (hall ⟨3,.data⟩ (by simp) rfl)
   exact Xbt ho rfl (Xcd (Xdv rfl e1 e2 rfl e3) ⟨SZ,Xem e4 UP,ORD (by decide) (by decide)⟩)
  ·have hq:=ho
   simp only[List.getElem?_toArray,List.getElem?_cons_zero,List.getElem?_cons_succ,Option.some.injEq] at hq
   subst hq
   exact Xbt ho rfl (Xi8 rfl (Yjj w1) ⟨SZ,Xem (Xkg hI 2 (by omega)) UP,ORD (by decide) (by decide)⟩)
  ·have hq:=ho
   simp only[List.getElem?_toArray,List.getElem?_cons_zero,List.getElem?_cons_succ,Option.some.injEq] at hq
   subst hq
   obtain⟨b,w2,e1,e2,e3,e4⟩:=Xfg hI 2 (by omega) h0' (hall ⟨0,.data⟩ (by simp) rfl) (hall ⟨5,.data⟩ (by simp) rfl)
   exact Xbt ho rfl (Xcd (Xdv rfl e1 e2 rfl e3) ⟨SZ,Xem e4 UP,ORD (by decide) (by decide)⟩)
  ·have hq:=ho
   simp only[List.getElem?_toArray,List.getElem?_cons_zero,List.getElem?_cons_succ,Option.some.injEq] at hq
   subst hq
   exact Xbt ho rfl (Xi8 rfl (Yji w1) ⟨SZ,Xem (Xkg hI 3 (by omega)) UP,ORD (by decide) (by decide)⟩)
  ·have hq:=ho
   simp only[List.getElem?_toArray,List.getElem?_cons_zero,List.getElem?_cons_succ,Option.some.injEq] at hq
   subst hq
   obtain⟨b,w2,e1,e2,e3,e4⟩:=Xfg hI 3 (by omega) h0' (hall ⟨0,.data⟩ (by simp) rfl) (hall ⟨7,.data⟩ (by simp) rfl)
   exact Xbt ho rfl (Xcd (Xdv rfl e1 e2 rfl e3) ⟨SZ,Xem e4 UP,ORD (by decide) (by decide)⟩)
  ·have hq:=ho
   simp only[List.getElem?_toArray,List.getElem?_cons_zero,List.getElem?_cons_succ,Option.some.injEq] at hq
   subst hq
   exact Xbt ho rfl (Xi8 rfl (Yjh w1) ⟨SZ,Xem (Xkg hI 4 (by omega)) UP,ORD (by decide) (by decide)⟩)
  ·have hq:=ho
   simp only[List.getElem?_toArray,List.getElem?_cons_zero,List.getElem?_cons_succ,Option.some.injEq] at hq
   subst hq
   obtain⟨b,w2,e1,e2,e3,e4⟩:=Xfg hI 4 (by omega) h0' (hall ⟨0,.data⟩ (by simp) rfl) (hall ⟨9,.data⟩ (by simp) rfl)
   exact Xbt ho rfl (Xcd (Xdv rfl e1 e2 rfl e3) ⟨SZ,Xem e4 UP,ORD (by decide) (by decide)⟩)
  ·have hq:=ho
   simp only[List.getElem?_toArray,List.getElem?_cons_zero,List.getElem?_cons_succ,Option.some.injEq] at hq
   subst hq
   have h12:listed.getD 12 false=false:=by
    cases hq:listed.getD 12 false
    ·rfl
    ·rw[O2 hq] at h0';cases h0'
   refine Xbt ho rfl (Xb0 (Xyj rfl) ⟨SZ,Xem (Yfl hI h12) UP,?_,?_⟩)
   ·intro _;rw[UP];exact hall ⟨0,.data⟩ (by simp) rfl
   ·intro _;rw[UP];rfl
  ·have hq:=ho
   simp only[List.getElem?_toArray,List.getElem?_cons_zero,List.getElem?_cons_succ,Option.some.injEq] at hq
   subst hq
   refine Xbt ho rfl (Xb0 (Xkh rfl) ⟨SZ,Xem (Xye hI) UP,?_,?_⟩)
   ·rw[UP,UP];exact O1
   ·intro _;rw[UP];exact hall ⟨11,.data⟩ (by simp) rfl
 ·rintro listed a w1 ⟨hs,hI,O1,O2⟩ hr
  have a0:=Xbu hr (i:=0) rfl (by omega) (by intro e he;simp at he)
  have a1:=Xbu hr (i:=1) rfl (by omega) (by intro e he;simp at he)
  have a3:=Xbu hr (i:=3) rfl (by omega) (by intro e he;simp at he;subst he;assumption)
  have a5:=Xbu hr (i:=5) rfl (by omega) (by intro e he;simp at he;subst he;assumption)
  have a7:=Xbu hr (i:=7) rfl (by omega) (by intro e he;simp at he;subst he;assumption)
  have a9:=Xbu hr (i:=9) rfl (by omega) (by intro e he;simp at he;subst he;assumption)
  have a2:=Xbu hr (i:=2) rfl (by omega) (by intro e he;simp at he;rcases he with rfl|rfl<;>assumption)
  have a4:=Xbu hr (i:=4) rfl (by omega) (by intro e he;simp at he;rcases he with rfl|rfl<;>assumption)
  have a6:=Xbu hr (i:=6) rfl (by omega) (by intro e he;simp at he;rcases he with rfl|rfl<;>assumption)
  have a8:=Xbu hr (i:=8) rfl (by omega) (by intro e he;simp at he;rcases he with rfl|rfl<;>assumption)
  have a10:=Xbu hr (i:=10) rfl (by omega) (by intro e he;simp at he;rcases he with rfl|rfl<;>assumption)
  have a11:=Xbu hr (i:=11) rfl (by omega) (by intro e he;simp at he;rcases he with rfl|rfl|rfl|rfl|rfl|rfl|rfl|rfl|rfl|rfl|rfl<;>assumption)
  have a12:=Xbu hr (i:=12) rfl (by omega) (by intro e he;simp at he;rcases he with rfl|rfl|rfl|rfl|rfl|rfl|rfl|rfl|rfl|rfl|rfl|rfl|rfl|rfl<;>assumption)
  obtain⟨hbel,v0,v1,v2,v3,v4,v5,v6,v7,rfl,-,-,-,-,-,-,h8,h9,h10⟩:=hI
  obtain⟨b,l,rfl,hb,hm,hl⟩:=h8 a0
  obtain rfl:=h9 a11
  obtain rfl:=h10 a12
  have POST:Hid (Ydw w (.returned (.map (some b))) w1):=Hd ⟨b,l,rfl,hbel,hb,hm,fun p=>(hl p).trans (by
   constructor
   ·rintro⟨k,hk,_,h⟩;exact⟨k,hk,h⟩
   ·rintro⟨k,hk,h⟩
    refine⟨k,hk,?_,h⟩
    rcases(by omega:k=0∨k=1∨k=2∨k=3∨k=4) with rfl|rfl|rfl|rfl|rfl<;>assumption)⟩
  clear hr O1 O2 hb hm hl hbel h8 h9 h10 a0 a1 a2 a3 a4 a5 a6 a7 a8 a9 a10 a11 a12
  refine‹∀(a:Act) (w_1:World),Code.wp _ _ _ a w_1→_› _ _ ?_
  go_wp2_with fail
  go_ret
  exact POST.out
 ·refine⟨(Dr.below ⟨1,rfl⟩),_,_,_,_,_,_,_,_,rfl,?_⟩
  simp
  intro k hk
  rw[Array.getElem?_replicate]
  split<;>rfl
 ·simp[Xnq]
end Go.Proofs.YtohmdledkhgdaaaGreatDoor
/- A build of any number of parts; a lookup; values in drawn regions. -/
namespace Go.Proofs.YtohmdledkhgdaaaGreatDoor
open Go.RowKit
set_option linter.unusedVariables false
set_option maxRecDepth 100000
theorem Xdi {P:Program} {ops:Array Oper} {rest:List Oper} {o:Oper} {a:Act} {w:World} {Q:Exit→Act→World→Prop} (t:TypeId) (hgd:o.guard=none) (ps:Array (Nat×Operand)) (ho:o.op=.build t ps) (h:∃vs v,ps.map (fun(i,x)=>(i,a.eval x))=vs∧(Instr.build t vs).run P w=.ok v w∧wpList P ops Q rest (a.put o.dst v) w):wpList P ops Q (o::rest) a w:=by
 obtain⟨vs,v,rfl,h2,h3⟩:=h
 exact Xaz hgd (Xcr ho h2) h3
def FK (k:Nat) (T:List Nat):Nat:=
 if k=0 then nxt T fun x T=>fe (Xhe x) (fin T)
 else if k=1 then nxt T fun x T=>fe (Xhe x) ((fun T=>nxt T fun x T=>fe (Xhw x) (fin T)) T)
 else if k=2 then nxt T fun x T=>fe (Xhw x) ((fun T=>nxt T fun x T=>fe ((Xe1 0 1000000) x) ((fun T=>nxt T fun m T=>if m=Xgj then Xd2 T else if m=Xh4 then nxt T (fun a T=>fe (Xcy a) (Xd2 T)) else 3) T)) T)
 else if k=3 then nxt T fun x T=>fe (Xhw x) ((fun T=>nxt T fun x T=>fe ((Xe1 0 1000000) x) (fin T)) T)
 else nxt T fun x T=>fe ((Xe1 1 1000) x) ((fun T=>nxt T fun x T=>fe (Xf5 x) (fin T)) T)
theorem Yjm:∀k<5,bs (kN k)=(if k=0 then Xhv else if k=1 then Xfr else if k=2 then Xhu else if k=3 then Xht else Xlt):=by decide
theorem Xy3 {k:Nat} (hk:k<5) (T:List Nat):Xu5 (bs (kN k)) T=FK k T:=by
 rw[Yjm k hk]
 rcases(by omega:k=0∨k=1∨k=2∨k=3∨k=4) with rfl|rfl|rfl|rfl|rfl
 ·rfl
 ·unfold Xu5 FK;rw[if_neg (by decide),if_pos (by decide),if_neg (by decide),if_pos (by decide)]
 ·unfold Xu5 FK;rw[if_neg (by decide),if_neg (by decide),if_pos (by decide),if_neg (by decide),if_neg (by decide),if_pos (by decide)]
 ·unfold Xu5 FK;rw[if_neg (by decide),if_neg (by decide),if_neg (by decide),if_pos (by decide),if_neg (by decide),if_neg (by decide),if_neg (by decide),if_pos (by decide)]
 ·unfold Xu5 FK;rw[if_neg (by decide),if_neg (by decide),if_neg (by decide),if_neg (by decide),if_pos (by decide),if_neg (by decide),if_neg (by decide),if_neg (by decide),if_neg (by decide)]
theorem Xy2 {x:ByteArray} (h:∀k<5,x≠kN k) (T:List Nat):Xu5 (bs x) T=11:=by
 have n0:bs x≠Xhv:=fun e=>h 0 (by omega) (Xfj (e.trans (by decide)))
 have n1:bs x≠Xfr:=fun e=>h 1 (by omega) (Xfj (e.trans (by decide)))
 have n2:bs x≠Xhu:=fun e=>h 2 (by omega) (Xfj (e.trans (by decide)))
 have n3:bs x≠Xht:=fun e=>h 3 (by omega) (Xfj (e.trans (by decide)))
 have n4:bs x≠Xlt:=fun e=>h 4 (by omega) (Xfj (e.trans (by decide)))
 unfold Xu5
 rw[if_neg n0,if_neg n1,if_neg n2,if_neg n3,if_neg n4]
theorem Xx6 {k:Nat} (hk:k<5) (w:World) (b:Nat) (t:ByteArray) (st en:Nat) (at_:Int) (er:Nat) (h:WS w b t st en at_ er) (hE:Env w) (hb9:9≤b) (ht:t.size≤100000):
    Calls Tryz.prog (fN k) #[.pointer (some ⟨b,0,none⟩)] w (Xcp w b t en er (FK k)):=by
 rcases(by omega:k=0∨k=1∨k=2∨k=3∨k=4) with rfl|rfl|rfl|rfl|rfl
 ·exact Xyb w b t st en at_ er h hE hb9 (by omega)
 ·exact Xya w b t st en at_ er h hE hb9 (by omega)
 ·exact Xx9 w b t st en at_ er h hE hb9 ht
 ·exact Xx8 w b t st en at_ er h hE hb9 (by omega)
 ·exact Xx7 w b t st en at_ er h hE hb9 (by omega)
theorem Yb2 {x:ByteArray} {k:Nat} (h:(x==kN k)=true):x=kN k:=by
 obtain⟨a⟩:=x
 have:(⟨a⟩:ByteArray)==kN k:=h
 have h2:(a==(kN k).data)=true:=h
 have:=eq_of_beq h2
 cases hq:kN k with
 |mk d=>rw[hq] at this;rw[this]
theorem Ybc {x:ByteArray} {k:Nat} (h:x≠kN k):(x==kN k)=false:=by
 cases hq:x==kN k
 ·rfl
 ·exact absurd (Yb2 hq) h
end Go.Proofs.YtohmdledkhgdaaaGreatDoor
