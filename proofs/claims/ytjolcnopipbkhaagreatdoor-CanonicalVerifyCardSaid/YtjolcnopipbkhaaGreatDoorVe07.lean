/- control.forms: the map of the forms, its entries in any order. -/
import Derived.Test.YtjolcnopipbkhaaGreatDoorVe06
import Derived.Orders
import Derived.RangeFuncWrites
namespace Go.Proofs.YtjolcnopipbkhaaGreatDoor
open Go.Proofs.Tryz
open Go.RowKit Go.Maps
set_option linter.unusedVariables false
set_option maxHeartbeats 100000000
set_option maxRecDepth 100000
def kN (k:Nat):ByteArray:=if k=0 then⟨#[99,97,110,99,101,108]⟩ else if k=1 then⟨#[97,112,112,114,111,118,101]⟩ else if k=2 then⟨#[100,101,102,105,110,101]⟩ else if k=3 then⟨#[114,101,109,111,118,101]⟩ else⟨#[114,101,107,101,121]⟩
def fN (k:Nat):FuncId:=if k=0 then 190 else if k=1 then 192 else if k=2 then 194 else if k=3 then 198 else 199
def fmE (k:Nat):ByteArray×Value:=(kN k,.func (.func (fN k)) #[] #[])
theorem Yl5:∀j<5,∀k<5,j≠k→(kN j==kN k)=false:=by decide
theorem Yjh:∀k<5,(kN k==kN k)=true:=by decide
structure FI (w0:World) (d:Nat→Bool) (a:Act) (w:World):Prop where
 size:Bw w0 w
 tmps:∃v0 v1 v2 v3 v4 v5 v6 v7,a=⟨#[v0,v1,v2,v3,v4,v5,v6,v7],[]⟩∧
  (d 1=true→v2=.string (kN 0))∧(d 3=true→v3=.string (kN 1))∧(d 5=true→v4=.string (kN 2))∧(d 7=true→v5=.string (kN 3))∧(d 9=true→v6=.string (kN 4))∧
  (d 0=false→∀k,k<5→d (2*k+2)=false)∧
  (d 0=true→∃b l,v1=.map (some b)∧w0.heap.size≤b∧MF w b l∧∀p,p∈l↔∃k,k<5∧d (2*k+2)=true∧p=fmE k)∧
  (d 11=true→v7=v1)∧(d 12=true→v0=v7)
def upd (d:Nat→Bool)(i:Nat)(j:Nat):Bool:=if j=i then true else d j
theorem Yfj {listed:Array Bool}(hs:listed.size=13){i:Nat}(hi:i<13)(j:Nat):(listed.setIfInBounds i true).getD j false=upd (fun j=>listed.getD j false) i j:=by
 unfold upd;by_cases h:j=i;·subst h;simp[Array.getD,hs,hi]
 rw[Array.getD_eq_getD_getElem?,Array.getElem?_setIfInBounds,qN (Ne.symm h),qN h];show _=listed.getD j false;rw[Array.getD_eq_getD_getElem?]
theorem Xbw {P:Program}{ops:Array Oper}{Q:Exit→Act→World→Prop}{i:Nat}{o:Oper}{K:Act→World→Prop}{a:Act}{w:World}(ho:ops[i]?=some o)(hg:o.guard=none)(h:o.wp P a w K Q):wpOp P ops Q i K a w:=by unfold wpOp;simp only[ho];rw[qP (by simp[Region.wanted,hg])];exact .inl h
def Yhu (w:World)(e:Ending)(w':World):Prop:=∃b l,e=.returned (.map (some b))∧Bw w w'∧w.heap.size≤b∧MF w' b l∧∀p,p∈l↔∃k,k<5∧p=fmE k
theorem Xfv {w0 w:World}{d:Nat→Bool}{a:Act}(h:FI w0 d a w)(k:Nat)(hk:k<5)(hd:d (2*k+2)=false)(h0:d 0=true)(hkey:d (2*k+1)=true):∃b w',a.eval (.tmp 1)=.map (some b)∧a.eval (.tmp (k+2))=.string (kN k)∧
     (Instr.mapUpdate 203 (.map (some b)) (.string (kN k)) (.func (.func (fN k)) #[] #[])).run prog w=.ok () w'∧FI w0 (upd d (2*k+2)) a w':=by
 obtain⟨v,C,K,D,E,F,G,H,I,rfl,n,o,q,r,s,J,x,y,i⟩:=h;obtain⟨b,l,rfl,t,A,u⟩:=x h0;obtain⟨w',B,m,z⟩:=Yly A (kN k) (.func (.func (fN k)) #[] #[]) (fun p hp=>by obtain⟨j,g,c,rfl⟩:=(u p).1 hp;refine Yl5 k hk j g ?_;rintro rfl;rw[hd] at c;cases c);have f:∀j,j≠2*k+2→upd d (2*k+2) j=d j:=fun j g=>by unfold upd;rw[qN g]
 refine⟨b,w',rfl,?_,B,⟨v.trans (z.below v.size t),C,_,D,E,F,G,H,I,rfl,?_,?_,?_,?_,?_,?_,?_,?_,?_⟩⟩
 ·rcases(by omega:k=0∨k=1∨k=2∨k=3∨k=4) with rfl|rfl|rfl|rfl|rfl;·exact n hkey
  ·exact o hkey
  ·exact q hkey
  ·exact r hkey
  exact s hkey
 ·rw[f 1 (by omega)];exact n
 ·rw[f 3 (by omega)];exact o
 ·rw[f 5 (by omega)];exact q
 ·rw[f 7 (by omega)];exact r
 ·rw[f 9 (by omega)];exact s
 ·rw[f 0 (by omega),h0];intro h;cases h
 ·intro _;refine⟨b,_,rfl,t,m,fun p=>?_⟩;rw[List.mem_cons,u p];constructor
  ·rintro(rfl|⟨j,g,c,rfl⟩);·exact⟨k,hk,by unfold upd;rw[qP rfl],rfl⟩
   exact⟨j,g,by unfold upd;split<;>first|rfl|exact c,rfl⟩
  rintro⟨j,g,c,rfl⟩;by_cases e:j=k;·subst e;exact .inl rfl
  refine .inr ⟨j,g,?_,rfl⟩;rw[f _ (by omega)] at c;exact c
 ·rw[f 11 (by omega)];exact y
 rw[f 12 (by omega)];exact i
theorem Xk0 {w0 w:World}{d:Nat→Bool}{a:Act}(h:FI w0 d a w)(k:Nat)(hk:k<5):FI w0 (upd d (2*k+1)) (a.put (some (k+2)) (.string (kN k))) w:=by
 obtain⟨t,u,r,C,D,E,F,G,v,rfl,q,y,z,A,B,I,J,s,f⟩:=h;have c:∀j,j≠2*k+1→upd d (2*k+1) j=d j:=fun j o=>by unfold upd;rw[qN o]
 have H:∀j,j<5→upd d (2*k+1) (2*j+2)=d (2*j+2):=fun j o=>c _ (by omega);have m:upd d (2*k+1) 0=false→∀j,j<5→upd d (2*k+1) (2*j+2)=false:=by rw[c 0 (by omega)];intro h j o;rw[H j o];exact I h j o
 have n:upd d (2*k+1) 0=true→∃b l,r=.map (some b)∧w0.heap.size≤b∧MF w b l∧∀p,p∈l↔∃j,j<5∧upd d (2*k+1) (2*j+2)=true∧p=fmE j:=by
  rw[c 0 (by omega)];intro h;obtain⟨b,l,e,K,M,L⟩:=J h;refine⟨b,l,e,K,M,fun p=>(L p).trans ?_⟩;constructor;·rintro⟨j,o,x,q⟩;exact⟨j,o,by rw[H j o];exact x,q⟩
  rintro⟨j,o,x,q⟩;exact⟨j,o,by rw[H j o] at x;exact x,q⟩
 have g:upd d (2*k+1) 11=d 11:=c _ (by omega);have i:upd d (2*k+1) 12=d 12:=c _ (by omega);rcases(by omega:k=0∨k=1∨k=2∨k=3∨k=4) with rfl|rfl|rfl|rfl|rfl;·exact⟨t,u,r,_,D,E,F,G,v,rfl,fun _=>rfl,by rw[c 3 (by omega)];exact y,by rw[c 5 (by omega)];exact z,by rw[c 7 (by omega)];exact A,by rw[c 9 (by omega)];exact B,m,n,by rw[g];exact s,by rw[i];exact f⟩
 ·exact⟨t,u,r,C,_,E,F,G,v,rfl,by rw[c 1 (by omega)];exact q,fun _=>rfl,by rw[c 5 (by omega)];exact z,by rw[c 7 (by omega)];exact A,by rw[c 9 (by omega)];exact B,m,n,by rw[g];exact s,by rw[i];exact f⟩
 ·exact⟨t,u,r,C,D,_,F,G,v,rfl,by rw[c 1 (by omega)];exact q,by rw[c 3 (by omega)];exact y,fun _=>rfl,by rw[c 7 (by omega)];exact A,by rw[c 9 (by omega)];exact B,m,n,by rw[g];exact s,by rw[i];exact f⟩
 ·exact⟨t,u,r,C,D,E,_,G,v,rfl,by rw[c 1 (by omega)];exact q,by rw[c 3 (by omega)];exact y,by rw[c 5 (by omega)];exact z,fun _=>rfl,by rw[c 9 (by omega)];exact B,m,n,by rw[g];exact s,by rw[i];exact f⟩
 exact⟨t,u,r,C,D,E,F,_,v,rfl,by rw[c 1 (by omega)];exact q,by rw[c 3 (by omega)];exact y,by rw[c 5 (by omega)];exact z,by rw[c 7 (by omega)];exact A,fun _=>rfl,m,n,by rw[g];exact s,by rw[i];exact f⟩
theorem Yjs {w0 w:World}{d:Nat→Bool}{a:Act}(h:FI w0 d a w)(h0:d 0=false)(h11d:d 11=false):FI w0 (upd d 0) (a.put (some 1) (.map (some w.heap.size))) (w.alloc (.map #[] 0)):=by
 obtain⟨f,q,A,r,s,t,u,v,x,rfl,i,k,l,m,n,o,y,z,c⟩:=h;have b:∀j,j≠0→upd d 0 j=d j:=fun j e=>by unfold upd;rw[qN e]
 refine⟨f.alloc f.size _,q,_,r,s,t,u,v,x,rfl,by rw[b 1 (by omega)];exact i,by rw[b 3 (by omega)];exact k,by rw[b 5 (by omega)];exact l,by rw[b 7 (by omega)];exact m,by rw[b 9 (by omega)];exact n,?_,?_,?_,by rw[b 12 (by omega)];exact c⟩;·intro h;cases h
 ·intro _;refine⟨w.heap.size,[],rfl,f.size,⟨#[],0,zN w _,[],rfl,List.Perm.refl _⟩,fun p=>?_⟩;constructor;·intro h;cases h
  rintro⟨j,e,g,_⟩;rw[b _ (by omega),o h0 j e] at g;cases g
 rw[b 11 (by omega),h11d];intro h;cases h
theorem Yjr {w0 w:World}{d:Nat→Bool}{a:Act}(h:FI w0 d a w)(h12d:d 12=false):FI w0 (upd d 11) (a.put (some 7) (a.eval (.tmp 1))) w:=by
 obtain⟨x,y,z,A,B,C,D,E,G,rfl,g,m,n,o,q,r,s,F,k⟩:=h;have c:∀j,j≠11→upd d 11 j=d j:=fun j f=>by unfold upd;rw[qN f]
 refine⟨x,y,z,A,B,C,D,E,_,rfl,by rw[c 1 (by omega)];exact g,by rw[c 3 (by omega)];exact m,by rw[c 5 (by omega)];exact n,by rw[c 7 (by omega)];exact o,by rw[c 9 (by omega)];exact q,?_,?_,fun _=>rfl,?_⟩;·rw[c 0 (by omega)];intro h j f;rw[c _ (by omega)];exact r h j f
 ·rw[c 0 (by omega)];intro h;obtain⟨b,l,e,t,v,u⟩:=s h;refine⟨b,l,e,t,v,fun p=>(u p).trans ?_⟩;constructor;·rintro⟨j,f,i,g⟩;exact⟨j,f,by rw[c _ (by omega)];exact i,g⟩
  rintro⟨j,f,i,g⟩;exact⟨j,f,by rw[c _ (by omega)] at i;exact i,g⟩
 rw[c 12 (by omega),h12d];intro h;cases h
theorem Ybg {w0 w:World}{d:Nat→Bool}{a:Act}(h:FI w0 d a w):FI w0 (upd d 12) (a.put (some 0) (a.eval (.tmp 7))) w:=by
 obtain⟨y,G,z,A,B,C,D,E,F,rfl,g,m,n,o,q,r,s,t,k⟩:=h;have c:∀j,j≠12→upd d 12 j=d j:=fun j f=>by unfold upd;rw[qN f]
 refine⟨y,_,z,A,B,C,D,E,F,rfl,by rw[c 1 (by omega)];exact g,by rw[c 3 (by omega)];exact m,by rw[c 5 (by omega)];exact n,by rw[c 7 (by omega)];exact o,by rw[c 9 (by omega)];exact q,?_,?_,by rw[c 11 (by omega)];exact t,fun _=>rfl⟩;·rw[c 0 (by omega)];intro h j f;rw[c _ (by omega)];exact r h j f
 rw[c 0 (by omega)];intro h;obtain⟨b,l,e,u,x,v⟩:=s h;refine⟨b,l,e,u,x,fun p=>(v p).trans ?_⟩;constructor;·rintro⟨j,f,i,g⟩;exact⟨j,f,by rw[c _ (by omega)];exact i,g⟩
 rintro⟨j,f,i,g⟩;exact⟨j,f,by rw[c _ (by omega)] at i;exact i,g⟩
theorem Xdy {P:Program}{o:Oper}{a:Act}{w w':World}{t:TypeId}{m k x:Operand}{vm vk vx:Value}(ho:o.op=.insert t m k x)(h1:a.eval m=vm)(h2:a.eval k=vk)(h3:a.eval x=vx)(h:(Instr.mapUpdate t vm vk vx).run P w=.ok () w'):(execOp a.eval o).run P w=.ok .skip w':=by unfold execOp;simp only[ho,h1,h2,h3,Sem.run_bind,h,Result.andThen_ok,Sem.run_pure]
theorem Xev {w0 w:World}{d d':Nat→Bool}{a:Act}(h:FI w0 d a w)(e:∀j,d' j=d j):FI w0 d' a w:=by have:d'=d:=funext e;rw[this];exact h
theorem Xqg {P:Program}{o:Oper}{a:Act}{w:World}{t:TypeId}(ho:o.op=.makeMap t none):(execOp a.eval o).run P w=.ok (.value (.map (some w.heap.size))) (w.alloc (.map #[] 0)):=by unfold execOp;simp[ho,run_makeMap]
theorem Ybl {P:Program}{o:Oper}{a:Act}{w:World}{x:Operand}(ho:o.op=.move x):(execOp a.eval o).run P w=.ok (.value (a.eval x)) w:=by unfold execOp;simp[ho]
theorem Xk1 {P:Program}{o:Oper}{a:Act}{w:World}{x:Operand}(ho:o.op=.assign x):(execOp a.eval o).run P w=.ok (.value (a.eval x)) w:=by unfold execOp;simp[ho]
theorem Xjr {K:Act→World→Prop}{Q:Exit→Act→World→Prop}{a:Act}{w:World}{o:Oper}{k:Int}{v:Value}(ho:o.op=.call {callee:=.value (.func 189),args:=#[.const (.int .i64 k)],argTypes:=#[3]}) (hc:Calls prog 189 #[.int .i64 k] w fun e w'=>e=.returned v∧w'=w) (h:K (a.put o.dst v) w):o.wp prog a w K Q:=by obtain⟨dst,f,ty,d,b,c⟩:=o;simp only at ho;subst ho;go_simp;exact hc.mono fun e w' he=>by obtain⟨rfl,rfl⟩:=he;exact h
theorem Xbx {md:Region.Mode}{ops:Array Oper}{listed:Array Bool}(hr:Region.ready md ops listed=[]){i:Nat}{o:Oper}(ho:ops[i]?=some o)(hlt:i<listed.size)(hall:∀e∈o.after,listed.getD e.on false=true):listed.getD i false=true:=by
 cases h:listed.getD i false with
 |true=>rfl
 |false=>have a:i∈Region.ready md ops listed:=mem_ready.2 ⟨by simpa [Array.getD,hlt] using h,o,ho,fun e he _=>hall e he⟩;rw[hr] at a;cases a
theorem Xcg {K:Act→World→Prop}{Q:Exit→Act→World→Prop}{P:Program}{a:Act}{w w':World}{o:Oper}(h:(execOp a.eval o).run P w=.ok .skip w')(hk:K (a.put o.dst undef) w'):o.wp P a w K Q:=by unfold Oper.wp;rw[h];exact hk
theorem Xb1 {K:Act→World→Prop}{Q:Exit→Act→World→Prop}{P:Program}{a:Act}{w w':World}{o:Oper}{v:Value}(h:(execOp a.eval o).run P w=.ok (.value v) w')(hk:K (a.put o.dst v) w'):o.wp P a w K Q:=by unfold Oper.wp;rw[h];exact hk
theorem Xxp (w:World):Calls prog 141 #[] w (Yhu w):=by
 go_enter func141,ntmps141;go_wp2_with fail;refine wp_region_any (by kernel_rfl) ?_;refine Xow (fun c a w'=>c.size=13∧FI w (fun j=>c.getD j false) a w'∧(c.getD 11 false=true→c.getD 0 false=true)∧(c.getD 12 false=true→c.getD 11 false=true)) ?_ ?_ _ _ _ _ ⟨by simp,?_,by simp,by simp⟩ ?_
 ·rintro c a w1 i ⟨I,t,B,G⟩ s;obtain⟨O,o,m,f⟩:=mem_ready.1 s;refine⟨O,?_⟩;have hi:i<13:=by have:=(Array.getElem?_eq_some_iff.1 m).1;simpa using this
  have r:c.getD i false=false:=by simpa [Array.getD,I,hi] using O
  have q:∀j,(c.setIfInBounds i true).getD j false=upd (fun j=>c.getD j false) i j:=fun j=>Yfj I hi j;have u:(c.setIfInBounds i true).size=13:=by simp[I]
  have n:i≠11→i≠12→((c.setIfInBounds i true).getD 11 false=true→(c.setIfInBounds i true).getD 0 false=true)∧((c.setIfInBounds i true).getD 12 false=true→(c.setIfInBounds i true).getD 11 false=true):=by
   intro n1 n2;rw[q,q,q];unfold upd;rw[qN (Ne.symm n1),qN (Ne.symm n2)];refine⟨fun h=>?_,G⟩;split;·rfl
   exact B h
  clear s;rcases(by omega:i=0∨i=1∨i=2∨i=3∨i=4∨i=5∨i=6∨i=7∨i=8∨i=9∨i=10∨i=11∨i=12) with rfl|rfl|rfl|rfl|rfl|rfl|rfl|rfl|rfl|rfl|rfl|rfl|rfl
  ·have d:=m;simp only[List.getElem?_toArray,List.getElem?_cons_zero,Option.some.injEq] at d;subst d;have L:c.getD 11 false=false:=by
    cases d:c.getD 11 false;·rfl
    rw[B d] at r;cases r
   exact Xbw m rfl (Xb1 (Xqg rfl) ⟨u,Xev (Yjs t r L) q,n (by decide) (by decide)⟩)
  ·have d:=m;simp only[List.getElem?_toArray,List.getElem?_cons_zero,List.getElem?_cons_succ,Option.some.injEq] at d;subst d;exact Xbw m rfl (Xjr rfl (Yn0 w1) ⟨u,Xev (Xk0 t 0 (by omega)) q,n (by decide) (by decide)⟩)
  ·have d:=m;simp only[List.getElem?_toArray,List.getElem?_cons_zero,List.getElem?_cons_succ,Option.some.injEq] at d;subst d;obtain⟨b,J,v,x,y,z⟩:=Xfv t 0 (by omega) r (f ⟨0,.data⟩ (by simp) rfl) (f ⟨1,.data⟩ (by simp) rfl);exact Xbw m rfl (Xcg (Xdy rfl v x rfl y) ⟨u,Xev z q,n (by decide) (by decide)⟩)
  ·have d:=m;simp only[List.getElem?_toArray,List.getElem?_cons_zero,List.getElem?_cons_succ,Option.some.injEq] at d;subst d;exact Xbw m rfl (Xjr rfl (Ynz w1) ⟨u,Xev (Xk0 t 1 (by omega)) q,n (by decide) (by decide)⟩)
  ·have d:=m;simp only[List.getElem?_toArray,List.getElem?_cons_zero,List.getElem?_cons_succ,Option.some.injEq] at d;subst d;obtain⟨b,J,v,x,y,z⟩:=Xfv t 1 (by omega) r (f ⟨0,.data⟩ (by simp) rfl) (f ⟨3,.data⟩ (by simp) rfl);exact Xbw m rfl (Xcg (Xdy rfl v x rfl y) ⟨u,Xev z q,n (by decide) (by decide)⟩)
  ·have d:=m;simp only[List.getElem?_toArray,List.getElem?_cons_zero,List.getElem?_cons_succ,Option.some.injEq] at d;subst d;exact Xbw m rfl (Xjr rfl (Yny w1) ⟨u,Xev (Xk0 t 2 (by omega)) q,n (by decide) (by decide)⟩)
  ·have d:=m;simp only[List.getElem?_toArray,List.getElem?_cons_zero,List.getElem?_cons_succ,Option.some.injEq] at d;subst d;obtain⟨b,J,v,x,y,z⟩:=Xfv t 2 (by omega) r (f ⟨0,.data⟩ (by simp) rfl) (f ⟨5,.data⟩ (by simp) rfl);exact Xbw m rfl (Xcg (Xdy rfl v x rfl y) ⟨u,Xev z q,n (by decide) (by decide)⟩)
  ·have d:=m;simp only[List.getElem?_toArray,List.getElem?_cons_zero,List.getElem?_cons_succ,Option.some.injEq] at d;subst d;exact Xbw m rfl (Xjr rfl (Ynx w1) ⟨u,Xev (Xk0 t 3 (by omega)) q,n (by decide) (by decide)⟩)
  ·have d:=m;simp only[List.getElem?_toArray,List.getElem?_cons_zero,List.getElem?_cons_succ,Option.some.injEq] at d;subst d;obtain⟨b,J,v,x,y,z⟩:=Xfv t 3 (by omega) r (f ⟨0,.data⟩ (by simp) rfl) (f ⟨7,.data⟩ (by simp) rfl);exact Xbw m rfl (Xcg (Xdy rfl v x rfl y) ⟨u,Xev z q,n (by decide) (by decide)⟩)
  ·have d:=m;simp only[List.getElem?_toArray,List.getElem?_cons_zero,List.getElem?_cons_succ,Option.some.injEq] at d;subst d;exact Xbw m rfl (Xjr rfl (Ynw w1) ⟨u,Xev (Xk0 t 4 (by omega)) q,n (by decide) (by decide)⟩)
  ·have d:=m;simp only[List.getElem?_toArray,List.getElem?_cons_zero,List.getElem?_cons_succ,Option.some.injEq] at d;subst d;obtain⟨b,J,v,x,y,z⟩:=Xfv t 4 (by omega) r (f ⟨0,.data⟩ (by simp) rfl) (f ⟨9,.data⟩ (by simp) rfl);exact Xbw m rfl (Xcg (Xdy rfl v x rfl y) ⟨u,Xev z q,n (by decide) (by decide)⟩)
  ·have d:=m;simp only[List.getElem?_toArray,List.getElem?_cons_zero,List.getElem?_cons_succ,Option.some.injEq] at d;subst d;have M:c.getD 12 false=false:=by
    cases d:c.getD 12 false;·rfl
    rw[G d] at r;cases r
   refine Xbw m rfl (Xb1 (Ybl rfl) ⟨u,Xev (Yjr t M) q,?_,?_⟩);·intro _;rw[q];exact f ⟨0,.data⟩ (by simp) rfl
   intro _;rw[q];rfl
  have d:=m;simp only[List.getElem?_toArray,List.getElem?_cons_zero,List.getElem?_cons_succ,Option.some.injEq] at d;subst d;refine Xbw m rfl (Xb1 (Xk1 rfl) ⟨u,Xev (Ybg t) q,?_,?_⟩);·rw[q,q];exact B
  intro _;rw[q];exact f ⟨11,.data⟩ (by simp) rfl
 ·rintro c a w1 ⟨I,t,B,G⟩ s;have N:=Xbx s (i:=0) rfl (by omega) (by intro e g;simp at g);have U:=Xbx s (i:=1) rfl (by omega) (by intro e g;simp at g);have W:=Xbx s (i:=3) rfl (by omega) (by intro e g;simp at g;subst g;assumption);have Y:=Xbx s (i:=5) rfl (by omega) (by intro e g;simp at g;subst g;assumption);have a7:=Xbx s (i:=7) rfl (by omega) (by intro e g;simp at g;subst g;assumption);have a9:=Xbx s (i:=9) rfl (by omega) (by intro e g;simp at g;subst g;assumption);have V:=Xbx s (i:=2) rfl (by omega) (by intro e g;simp at g;rcases g with rfl|rfl<;>assumption);have X:=Xbx s (i:=4) rfl (by omega) (by intro e g;simp at g;rcases g with rfl|rfl<;>assumption);have Z:=Xbx s (i:=6) rfl (by omega) (by intro e g;simp at g;rcases g with rfl|rfl<;>assumption);have a8:=Xbx s (i:=8) rfl (by omega) (by intro e g;simp at g;rcases g with rfl|rfl<;>assumption);have K:=Xbx s (i:=10) rfl (by omega) (by intro e g;simp at g;rcases g with rfl|rfl<;>assumption);have D:=Xbx s (i:=11) rfl (by omega) (by intro e g;simp at g;rcases g with rfl|rfl|rfl|rfl|rfl|rfl|rfl|rfl|rfl|rfl|rfl<;>assumption);have E:=Xbx s (i:=12) rfl (by omega) (by intro e g;simp at g;rcases g with rfl|rfl|rfl|rfl|rfl|rfl|rfl|rfl|rfl|rfl|rfl|rfl|rfl|rfl<;>assumption);obtain⟨A,v0,v1,v2,v3,v4,v5,v6,v7,rfl,-,-,-,-,-,-,P,Q,F⟩:=t;obtain⟨b,l,rfl,R,T,S⟩:=P N;obtain rfl:=Q D;obtain rfl:=F E;have C:Hid (Yhu w (.returned (.map (some b))) w1):=Hd ⟨b,l,rfl,A,R,T,fun p=>(S p).trans (by
   constructor;·rintro⟨k,H,_,h⟩;exact⟨k,H,h⟩
   rintro⟨k,H,h⟩;refine⟨k,H,?_,h⟩;rcases(by omega:k=0∨k=1∨k=2∨k=3∨k=4) with rfl|rfl|rfl|rfl|rfl<;>assumption)⟩
  clear s B G R T S A P Q F N U V W X Y Z a7 a8 a9 K D E;refine‹∀(a:Act) (w_1:World),Code.wp _ _ _ a w_1→_› _ _ ?_;go_wp2_with fail;go_ret;exact C.o
 ·refine⟨(Dr.below ⟨1,rfl⟩),_,_,_,_,_,_,_,_,rfl,?_⟩;simp;intro k H;rw[Array.getElem?_replicate];split<;>rfl
 simp[Xoz]
theorem Xe2 {P:Program}{ops:Array Oper}{rest:List Oper}{o:Oper}{a:Act}{w:World}{Q:Exit→Act→World→Prop}(t:TypeId)(hgd:o.guard=none)(ps:Array (Nat×Operand))(ho:o.op=.build t ps)(h:∃vs v,ps.map (fun(i,x)=>(i,a.eval x))=vs∧(Instr.build t vs).run P w=.ok v w∧wpList P ops Q rest (a.put o.dst v) w):wpList P ops Q (o::rest) a w:=by obtain⟨vs,v,rfl,b,c⟩:=h;exact Xaz hgd (Xdd ho b) c
def FK (k:Nat)(T:List Nat):Nat:=
 if k=0 then nxt T fun x T=>fe (Xhx x) (fin T)
 else if k=1 then nxt T fun x T=>fe (Xhx x) ((fun T=>nxt T fun x T=>fe (Xih x) (fin T)) T)
 else if k=2 then nxt T fun x T=>fe (Xih x) ((fun T=>nxt T fun x T=>fe ((Xfe 0 1000000) x) ((fun T=>nxt T fun m T=>if m=Xgt then Xd3 T else if m=Xip then nxt T (fun a T=>fe (Xc5 a) (Xd3 T)) else 3) T)) T)
 else if k=3 then nxt T fun x T=>fe (Xih x) ((fun T=>nxt T fun x T=>fe ((Xfe 0 1000000) x) (fin T)) T)
 else nxt T fun x T=>fe ((Xfe 1 1000) x) ((fun T=>nxt T fun x T=>fe (Xhf x) (fin T)) T)
theorem Yn1:∀k<5,bs (kN k)=(if k=0 then Xig else if k=1 then Xf6 else if k=2 then Xif else if k=3 then Xie else Xml):=by decide
theorem Yb9 {k:Nat}(hk:k<5)(T:List Nat):Xxl (bs (kN k)) T=FK k T:=by
 rw[Yn1 k hk];rcases(by omega:k=0∨k=1∨k=2∨k=3∨k=4) with rfl|rfl|rfl|rfl|rfl;·rfl
 ·unfold Xxl FK;rw[qN (by decide),qP (by decide),qN (by decide),qP (by decide)]
 ·unfold Xxl FK;rw[qN (by decide),qN (by decide),qP (by decide),qN (by decide),qN (by decide),qP (by decide)]
 ·unfold Xxl FK;rw[qN (by decide),qN (by decide),qN (by decide),qP (by decide),qN (by decide),qN (by decide),qN (by decide),qP (by decide)]
 unfold Xxl FK;rw[qN (by decide),qN (by decide),qN (by decide),qN (by decide),qP (by decide),qN (by decide),qN (by decide),qN (by decide),qN (by decide)]
theorem Yb8 {x:ByteArray}(h:∀k<5,x≠kN k)(T:List Nat):Xxl (bs x) T=11:=by have a:bs x≠Xig:=fun e=>h 0 (by omega) (Xmy (e.trans (by decide)));have b:bs x≠Xf6:=fun e=>h 1 (by omega) (Xmy (e.trans (by decide)));have c:bs x≠Xif:=fun e=>h 2 (by omega) (Xmy (e.trans (by decide)));have d:bs x≠Xie:=fun e=>h 3 (by omega) (Xmy (e.trans (by decide)));have f:bs x≠Xml:=fun e=>h 4 (by omega) (Xmy (e.trans (by decide)));unfold Xxl;rw[qN a,qN b,qN c,qN d,qN f]
theorem Ya7 {k:Nat}(hk:k<5)(w:World)(b:Nat)(t:ByteArray)(st en:Nat)(at_:Int)(er:Nat)(h:WS w b t st en at_ er)(hE:Env w)(hb9:9≤b)(ht:t.size≤100000):Calls prog (fN k) #[.pointer (some ⟨b,0,none⟩)] w (Xcw w b t en er (FK k)):=by
 rcases(by omega:k=0∨k=1∨k=2∨k=3∨k=4) with rfl|rfl|rfl|rfl|rfl;·exact Ybc w b t st en at_ er h hE hb9 (by omega)
 ·exact Ybb w b t st en at_ er h hE hb9 (by omega)
 ·exact Yba w b t st en at_ er h hE hb9 ht
 ·exact Ya9 w b t st en at_ er h hE hb9 (by omega)
 exact Ya8 w b t st en at_ er h hE hb9 (by omega)
theorem Yfp {x:ByteArray}{k:Nat}(h:(x==kN k)=true):x=kN k:=by
 obtain⟨a⟩:=x;have:(⟨a⟩:ByteArray)==kN k:=h;have b:(a==(kN k).data)=true:=h;have:=eq_of_beq b
 cases hq:kN k with
 |mk d=>rw[hq] at this;rw[this]
theorem Yev {x:ByteArray}{k:Nat}(h:x≠kN k):(x==kN k)=false:=by
 cases hq:x==kN k;·rfl
 exact absurd (Yfp hq) h
def Yhv (l:List Nat)(w:World)(e:Ending)(w':World):Prop:=
 ∃(cs:Array Value) (a:Int),e=.returned (.tuple #[.agg cs,.int .i64 a,.int .i64 ((Xd4 l:Nat):Int)])∧Cl 56 cs∧Bw w w'
theorem Xyn (s x:ByteArray)(hx:bs x=Xth 32 (bs s)):Xd4 (bs s)=if 1000<s.size then 5 else Xxl (bs x) ((bs s).drop x.size):=by
 unfold Xd4;rw[Xac];have a:(bs s).takeWhile (fun c=>!decide (c=32))=bs x:=hx.symm;have b:(bs s).drop x.size=(bs s).dropWhile (fun c=>!decide (c=32)):=by
  have:=List.takeWhile_append_dropWhile (p:=fun c=>!decide (c=32)) (l:=bs s);rw[a] at this
  conv=>lhs;rw[←this]
  rw[←Xac x,List.drop_append,List.drop_length,Nat.sub_self];rfl
 rw[a,b]
theorem MB.on {w w':World}{p:Nat}(h:MB w p)(hb:Bw w w'):MB w' p:=by obtain⟨cs,a,b⟩:=h;exact⟨cs,(hb.block p (zY a)).trans a,b⟩
theorem MB.storeAll {w:World}{p:Nat}(h:MB w p){cs:Array Value}(hc:Cl 56 cs):Sv 139 ⟨p,0,none⟩ (.agg cs) w (w.setRow p cs)∧(w.setRow p cs).heap[p]?=some (.cells cs 139 (0,0))∧Fr1 p w (w.setRow p cs):=by obtain⟨b,a,c⟩:=h;exact⟨run_storeVar_row (P:=prog) w p _ 139 b cs a (by rw[hc.1];exact Xa3) (by rw[hc.1,c.1]) hc.2,setRow_heap w p b cs _ _ a,⟨rfl,rfl,rfl,by simp[World.setRow],fun k hk hne=>setRow_other w p k cs hne⟩⟩
theorem Xa6 {P:Program}{md:Region.Mode}{ops:Array Oper}{Q:Exit→Act→World→Prop}{S:World→Prop}{i:Nat}{o:Oper}{fuel:Nat}{listed:Array Bool}{a:Act}{w w':World}{v:Value}(hr:Region.ready md ops listed=[i])(ho:ops[i]?=some o)(hg:o.guard=none) (he:(execOp a.eval o).run P w=.ok (.value v) w') (hS:S w') (h:wpAnyH P md ops Q S fuel (listed.setIfInBounds i true) (a.put o.dst v) w'):wpAnyH P md ops Q S (fuel+1) listed a w:=
 wpAnyH_all hr (by simp) (fun j hj=>by
  obtain rfl:j=i:=by simpa using hj
  exact Xbw ho hg (Xb1 he ⟨hS,h⟩))
theorem Xal {P:Program}{o:Oper}{a:Act}{w:World}{x:Operand}{v:Value}(ho:o.op=.assign x)(hx:a.eval x=v):(execOp a.eval o).run P w=.ok (.value v) w:=by rw[←hx];exact Xk1 ho
theorem Xbe {P:Program}{md:Region.Mode}{ops:Array Oper}{Q:Exit→Act→World→Prop}{S:World→Prop}{i:Nat}{o:Oper}{fuel:Nat}{listed:Array Bool}{a:Act}{w w':World}(hr:Region.ready md ops listed=[i])(ho:ops[i]?=some o)(hg:o.guard=none) (he:(execOp a.eval o).run P w=.ok .skip w') (hS:S w') (h:wpAnyH P md ops Q S fuel (listed.setIfInBounds i true) (a.put o.dst undef) w'):wpAnyH P md ops Q S (fuel+1) listed a w:=
 wpAnyH_all hr (by simp) (fun j hj=>by
  obtain rfl:j=i:=by simpa using hj
  exact Xbw ho hg (Xcg he ⟨hS,h⟩))
def S34 (b:Nat)(a:Int)(er:Nat)(w':World):Prop:=w'.cell? ⟨b,3,none⟩=some (.int .i64 a)∧w'.cell? ⟨b,4,none⟩=some (.int .i64 (er:Int))
theorem Yj7 {k:Nat}(hk:k<5)(args:Array Value)(w:World):(callFunc (fN k) args).run prog w=.ok (.enter (fN k) args) w:=by rcases(by omega:k=0∨k=1∨k=2∨k=3∨k=4) with rfl|rfl|rfl|rfl|rfl<;>rfl
theorem Xxe (s:ByteArray)(w:World)(hs:s.size≤1000000)(hE:Env w):Calls prog 90 #[.string s] w (Yhv (bs s) w):=by
 obtain⟨D,aG⟩:=xq (Xlx 0 Xhw);have m:Hid (Cl 56 D):=Hd (by rw[aG];exact Xd1 0 _ (by simp[Xhw]) Xek);have BK:Hid (∀w,(Instr.build 139 #[]).run prog w=.ok (.agg D) w):=Hd (fun w=>by rw[aG];kernel_rfl);obtain⟨w0,V⟩:=xq (w.alloc (.cells D 139));have EW:Hid (w0=w.alloc (.cells #[.int .i64 0,.int .u8 0,.int .u8 0,.int .u8 0,.int .u8 0,.int .u8 0,.int .u8 0,.int .u8 0,.int .u8 0,.int .u8 0,.int .u8 0,.int .u8 0,.int .u8 0,.int .u8 0,.int .u8 0,.int .u8 0,.int .u8 0,.int .u8 0,.int .u8 0,.int .u8 0,.int .u8 0,.int .u8 0,.int .u8 0,.int .u8 0,.int .u8 0,.int .u8 0,.int .u8 0,.int .u8 0,.int .u8 0,.int .u8 0,.int .u8 0,.int .u8 0,.int .u8 0,.string ⟨#[]⟩,.int .i64 0,.bool false,.slice none 0 0,.string ⟨#[]⟩,.int .i64 0,.int .i64 0,.int .u8 0,.int .u8 0,.int .u8 0,.int .u8 0,.int .u8 0,.int .u8 0,.int .u8 0,.int .u8 0,.int .u8 0,.int .u8 0,.int .u8 0,.int .u8 0,.int .u8 0,.int .u8 0,.int .u8 0,.int .u8 0] 139)):=Hd (by rw[V,aG];rfl);have B0:Hid (Bw w w0):=Hd (by rw[V];exact(zR _ _).alloc (zL _) _);have M0:Hid (MB w0 w.heap.size):=Hd ⟨D,by rw[V];exact zN w _,m.o⟩;have E0:=Hd (hE.on B0.o);have aY:9≤w.heap.size:=hE.size;have aW:Hid (w0.heap.size=w.heap.size+1):=Hd (by rw[V];simp);clear aG V hE;by_cases hl:1000<s.size
 ·have F:Hid (Xd4 (bs s)=5):=Hd (by unfold Xd4;rw[Xac,qP hl]);obtain⟨G,W2,FR⟩:=M0.o.storeAll m.o;have G:=Hd G;have W2:=Hd W2;have BB:Hid (Bw w (w0.setRow w.heap.size D)):=Hd (B0.o.trans (FR.below B0.o.size (zL _)));have ZS:Hid (D.size=56):=Hd m.o.1;clear FR;go_enter func90,ntmps90;go_upto_region 1 with fail;rw[←EW.o];go_upto_region 2 with fail;refine wp_region_list ?_;simp only[];refine Xah 139 rfl rfl ⟨_,BK.o _,?_⟩;go_wp2_with ((with_reducible refine Xaa 139 rfl _ _ rfl ?_);refine⟨_,_,_,rfl,rfl,G.o,?_⟩)
  exact zP (Xay results90 _ _ w.heap.size _ _ _ _ rfl W2.o underlying139 rfl (by rw[ZS.o];exact Xa3)) rfl ⟨D,0,by rw[F.o];rfl,m.o,BB.o⟩
 have aX:s.size≤1000:=by omega
 obtain⟨x,y,ok,⟨hx,hy,aS,aQ⟩,hcut⟩:=Ybw s 32 (by omega);have aL:=Hd (hcut w0 E0.o.mx);have F0:Hid (Xd4 (bs s)=Xxl (bs x) ((bs s).drop x.size)):=Hd (by rw[Xyn s x hx,qN hl]);clear hl hx hy aS hcut;go_enter func90,ntmps90;go_upto_region 1 with fail;rw[←EW.o];clear EW;go_wp2_with fail;refine aL.o.mono ?_;rintro e w1 ⟨rfl,aD⟩;have B1:=Hd (B0.o.trans ((Dr.below aD).mono B0.o.size));have M1:=Hd (M0.o.on (Dr.below aD));have E1:=Hd (E0.o.on (Dr.below aD));clear aL aD M0 B0 E0;have FM:=Hd (Xxp w1);go_wp2_with fail;refine FM.o.mono ?_;rintro e d ⟨b,l,rfl,aB,aR,hm,T⟩;have B2:=bh B1 aB;have M2:=Hd (M1.o.on aB);have E2:=Hd (E1.o.on aB);have aZ:w.heap.size<d.heap.size:=M2.o.lt;clear FM M1 B1 E1 aB aR;by_cases hk:∃k,k<5∧x=kN k
 ·obtain⟨k,B,X⟩:=hk;have LK:=Yi9 hm x (.func (.func (fN k)) #[] #[]) (by rw[X];exact Yjh k B) ((T _).2 ⟨k,B,by rw[X];rfl⟩) (fun p hp h=>by
   obtain⟨j,hj,rfl⟩:=(T p).1 hp;by_cases e:j=k;·subst e;rfl
   have h2:(kN k==kN j)=true:=by rw[←X];exact h
   rw[Yl5 k B j hj (fun e2=>e e2.symm)] at h2;cases h2)
  have F1:Hid (Xd4 (bs s)=FK k ((bs s).drop x.size)):=Hd (by rw[F0.o,X,Yb9 B]);have HK:=Hd B;obtain⟨fk,aE⟩:=xq (fN k);have FN:Hid (∀(w:World) (b:Nat) (st en:Nat) (at_:Int) (er:Nat) (h:WS w b s st en at_ er) (hE:Env w) (hb9:9≤b),Calls prog fk #[.pointer (some ⟨b,0,none⟩)] w (Xcw w b s en er (FK k))):=Hd (fun w b st en at_ er h hE hb9=>by rw[aE];exact Ya7 B w b s st en at_ er h hE hb9 (by omega));have CF:Hid (∀args w,(callFunc fk args).run prog w=.ok (.enter fk args) w):=Hd (fun args w=>by rw[aE];exact Yj7 B args w);rw[←aE] at LK;clear hm T X F0 B aE;have aV:x.size≤s.size:=aQ;go_upto_region 8 with fail;clear LK;obtain⟨w3,aF⟩:=xq (d.alloc (.cells #[.string s,.int .i64 0,.int .i64 (x.size:Int),.int .i64 0,.int .i64 0] 207));have b3:Bw d w3:=by rw[aF];exact(zR _ _).alloc (zL _) _
  have S3:Hid (WS w3 d.heap.size s 0 x.size 0 0):=Hd ⟨by rw[aF];exact zN d _,aQ⟩;have B3:=bh B2 b3;have M3:=Hd (M2.o.on b3);have E3:=Hd (E2.o.on b3);rw[←aF];clear b3 aF B2 M2 E2;have C:=Hd (FN.o w3 d.heap.size 0 x.size 0 0 S3.o E3.o (by omega));clear FN;have cf:=CF.o #[.pointer (some ⟨d.heap.size,0,none⟩)] w3;clear CF;go_wp2_with fail;clear cf;refine C.o.mono ?_;rintro e w4 ⟨cs,aT,N,a,O,rfl,aC,h4,f4,aH⟩;have CL:=Hd aC;have M4:=Hd (M3.o.fr f4 (by omega));have B4:=Hd (B3.o.trans (f4.below B3.o.size (by omega)));obtain⟨G,W5,f5⟩:=M4.o.storeAll aC;obtain⟨w5,aP⟩:=xq (w4.setRow w.heap.size cs);rw[←aP] at G W5 f5;have G:=Hd G;have M5:Hid (MB w5 w.heap.size):=Hd ⟨cs,W5,aC⟩;have S5:=Hd (h4.fr f5 (by omega));have B5:=Hd (B4.o.trans (f5.below B4.o.size (zL _)));have aA:Hid (fe O (fin ((bs s).drop N))=Xd4 (bs s)):=Hd (by rw[aH,F1.o];rfl);clear aC h4 f4 aH C B3 M3 E3 S3 W5 f5 aP M4 B4;have aO:w5.cell? ⟨d.heap.size,2,none⟩=some (.int .i64 (N:Int)):=cell_of_row w5 d.heap.size 2 _ _ _ S5.o.1;have aU:=S5.o.2;have aM:=Hd (Xac s);by_cases hen:N<s.size
  ·have FL:=Hd (Xca w5 d.heap.size s aT N a O S5.o (N:Int) 5);have L5:Hid (fe O 5=Xd4 (bs s)):=Hd (by
    have:=aA.o;have h5:fin ((bs s).drop N)=5:=by unfold fin;rw[qN (by rw[List.drop_eq_nil_iff,aM.o];omega)]
    rw[h5] at this;exact this)
   go_wp2_with ((with_reducible refine Xaa 139 rfl _ _ rfl ?_);refine⟨_,_,_,rfl,rfl,G.o,?_⟩)
   refine FL.o.mono ?_;rintro e f ⟨⟨v6,rfl⟩,⟨E,h6⟩,f6⟩;have M6:=Hd (M5.o.fr f6 (by omega));have Y:=Hd (B5.o.trans (f6.below B5.o.size (by omega)));obtain⟨c,z⟩:=xq (fe O 5);rw[←z] at h6;have S6:=Hd h6;have r:Hid (c=Xd4 (bs s)):=Hd (by rw[z];exact L5.o);clear h6 f6 z FL L5 aA hen aO M5 B5 S5 G;have R:f.cell? ⟨d.heap.size,4,none⟩=some (.int .i64 (c:Int)):=cell_of_row f d.heap.size 4 _ _ _ S6.o.1;have Q:f.cell? ⟨d.heap.size,3,none⟩=some (.int .i64 E):=cell_of_row f d.heap.size 3 _ _ _ S6.o.1;by_cases e0:c=0
   ·have q:((c:Int) !=0)=false:=by rw[e0];rfl
    have L0:Hid (Xd4 (bs s)=0):=Hd (by rw[←r.o,e0]);obtain⟨c6,U,g⟩:=M6.o;obtain⟨H,W7,f7⟩:=M6.o.storeAll g;have H:=Hd H;have W7:=Hd W7;have LD:=Hd (Xap f w.heap.size 56 _ _ c6 _ _ U rfl underlying139 Xa3 g.1);have P:=Hd g;have Z:=Hd (Y.o.trans (f7.below Y.o.size (zL _)));clear e0 U g f7 r;go_upto_region 13 with fail;refine wp_region_list ?_;simp only[];refine Xab 139 rfl _ rfl ⟨_,_,rfl,LD.o,?_⟩;go_wp2_with ((with_reducible refine Xaa 139 rfl _ _ rfl ?_);refine⟨_,_,_,rfl,rfl,H.o,?_⟩)
    exact zP (Xay results90 _ _ w.heap.size _ _ _ _ rfl W7.o underlying139 rfl (by rw[P.o.1];exact Xa3)) rfl ⟨c6,0,by rw[L0.o];rfl,P.o,Z.o⟩
   have q:((c:Int) !=0)=true:=Xaq (by omega);clear e0;go_upto_region 12 with fail;have M7:=Hd (M6.o.on (Dr.below ⟨1,rfl⟩:Bw f f.drew));have Z:=Hd (Y.o.trans ((Dr.below ⟨1,rfl⟩:Bw f f.drew).mono Y.o.size));have K:f.drew.cell? ⟨d.heap.size,3,none⟩=some (.int .i64 E):=Q;have M:f.drew.cell? ⟨d.heap.size,4,none⟩=some (.int .i64 (c:Int)):=R;obtain⟨I,W8,f8⟩:=M7.o.storeAll m.o;have A:S34 d.heap.size E c f.drew:=⟨K,M⟩
   have n:S34 d.heap.size E c (f.drew.setRow w.heap.size D):=by have ho:(f.drew.setRow w.heap.size D).heap[d.heap.size]?=f.drew.heap[d.heap.size]?:=f8.other _ S6.o.lt (by omega);exact⟨by rw[←K];unfold World.cell?;simp only[ho],by rw[←M];unfold World.cell?;simp only[ho]⟩
   have B8:=Hd (Z.o.trans (f8.below Z.o.size (zL _)));obtain⟨w8,W⟩:=xq (f.drew.setRow w.heap.size D);rw[←W] at I W8 n B8;refine wp_region_held (S:=S34 d.heap.size E c) (by kernel_rfl) ?_;change wpAnyH _ _ _ _ _ _ _ _ f.drew;refine Xae 0 (.agg D) rfl (fun w' hw'=>Xdd (ps:=#[]) rfl (by simpa using BK.o w')) A ?_;refine Xae 1 (.pointer (some ⟨d.heap.size,0,none⟩)) rfl (fun w' hw'=>by obtain⟨J,L⟩:=hw';go_simp) A ?_;refine Xae 2 (.pointer (some ⟨d.heap.size,0,none⟩)) rfl (fun w' hw'=>by obtain⟨J,L⟩:=hw';go_simp) A ?_;refine Xae 3 (.pointer (some ⟨d.heap.size,3,none⟩)) rfl (fun w' hw'=>by obtain⟨J,L⟩:=hw';go_simp) A ?_;refine Xae 4 (.int .i64 E) rfl (fun w' hw'=>by obtain⟨J,L⟩:=hw';go_simp) A ?_;refine Xae 5 (.pointer (some ⟨d.heap.size,0,none⟩)) rfl (fun w' hw'=>by obtain⟨J,L⟩:=hw';go_simp) A ?_;refine Xae 6 (.pointer (some ⟨d.heap.size,0,none⟩)) rfl (fun w' hw'=>by obtain⟨J,L⟩:=hw';go_simp) A ?_;refine Xae 7 (.pointer (some ⟨d.heap.size,4,none⟩)) rfl (fun w' hw'=>by obtain⟨J,L⟩:=hw';go_simp) A ?_;refine Xae 8 (.int .i64 (c:Int)) rfl (fun w' hw'=>by obtain⟨J,L⟩:=hw';go_simp) A ?_;refine Xbe (i:=9) (by kernel_rfl) rfl rfl (Xak (t:=139) (x:=.tmp 2) (y:=.tmp 56) (ad:=⟨w.heap.size,0,none⟩) (u:=.agg D) rfl (by kernel_rfl) (by kernel_rfl) I) n ?_;refine Xa6 (i:=10) (v:=.int .i64 E) (by kernel_rfl) rfl rfl (Xal (x:=.tmp 60) rfl (by kernel_rfl)) n ?_;refine Xa6 (i:=11) (v:=.int .i64 (c:Int)) (by kernel_rfl) rfl rfl (Xal (x:=.tmp 64) rfl (by kernel_rfl)) n ?_;refine wpAnyH_done (by kernel_rfl) ?_ _;have W8:=Hd W8;clear A n K M I f8 W Q R;go_simp;refine‹∀(a:Act) (w_1:World),Code.wp _ _ _ a w_1→_› _ _ ?_;go_wp2_with fail;exact zP (Xay results90 _ _ w.heap.size _ _ _ _ rfl W8.o underlying139 rfl (by rw[m.o.1];exact Xa3)) rfl ⟨D,E,by rw[←r.o];rfl,m.o,B8.o⟩
  have aI:Hid (O=Xd4 (bs s)):=Hd (by
   have:=aA.o;have h5:fin ((bs s).drop N)=0:=by unfold fin;rw[qP (by rw[List.drop_eq_nil_iff,aM.o];omega)]
   rw[h5,Xqf] at this;exact this)
  go_upto_region 11 with((with_reducible refine Xaa 139 rfl _ _ rfl ?_);refine⟨_,_,_,rfl,rfl,G.o,?_⟩)
  obtain⟨f,aK⟩:=xq w5;obtain⟨c,z⟩:=xq O;obtain⟨E,aN⟩:=xq a;rw[←aK,←z,←aN] at S5;rw[←aK] at M5 B5⊢;rw[←z] at aI;have S6:=S5;have M6:=M5;have Y:=B5;have r:=aI;clear S5 M5 B5 aI aA hen aO aK z aN G;have R:f.cell? ⟨d.heap.size,4,none⟩=some (.int .i64 (c:Int)):=cell_of_row f d.heap.size 4 _ _ _ S6.o.1;have Q:f.cell? ⟨d.heap.size,3,none⟩=some (.int .i64 E):=cell_of_row f d.heap.size 3 _ _ _ S6.o.1;by_cases e0:c=0
  ·have q:((c:Int) !=0)=false:=by rw[e0];rfl
   have L0:Hid (Xd4 (bs s)=0):=Hd (by rw[←r.o,e0]);obtain⟨c6,U,g⟩:=M6.o;obtain⟨H,W7,f7⟩:=M6.o.storeAll g;have H:=Hd H;have W7:=Hd W7;have LD:=Hd (Xap f w.heap.size 56 _ _ c6 _ _ U rfl underlying139 Xa3 g.1);have P:=Hd g;have Z:=Hd (Y.o.trans (f7.below Y.o.size (zL _)));clear e0 U g f7 r;go_upto_region 13 with fail;refine wp_region_list ?_;simp only[];refine Xab 139 rfl _ rfl ⟨_,_,rfl,LD.o,?_⟩;go_wp2_with ((with_reducible refine Xaa 139 rfl _ _ rfl ?_);refine⟨_,_,_,rfl,rfl,H.o,?_⟩)
   exact zP (Xay results90 _ _ w.heap.size _ _ _ _ rfl W7.o underlying139 rfl (by rw[P.o.1];exact Xa3)) rfl ⟨c6,0,by rw[L0.o];rfl,P.o,Z.o⟩
  have q:((c:Int) !=0)=true:=Xaq (by omega);clear e0;go_upto_region 12 with fail;have M7:=Hd (M6.o.on (Dr.below ⟨1,rfl⟩:Bw f f.drew));have Z:=Hd (Y.o.trans ((Dr.below ⟨1,rfl⟩:Bw f f.drew).mono Y.o.size));have K:f.drew.cell? ⟨d.heap.size,3,none⟩=some (.int .i64 E):=Q;have M:f.drew.cell? ⟨d.heap.size,4,none⟩=some (.int .i64 (c:Int)):=R;obtain⟨I,W8,f8⟩:=M7.o.storeAll m.o;have A:S34 d.heap.size E c f.drew:=⟨K,M⟩
  have n:S34 d.heap.size E c (f.drew.setRow w.heap.size D):=by have ho:(f.drew.setRow w.heap.size D).heap[d.heap.size]?=f.drew.heap[d.heap.size]?:=f8.other _ S6.o.lt (by omega);exact⟨by rw[←K];unfold World.cell?;simp only[ho],by rw[←M];unfold World.cell?;simp only[ho]⟩
  have B8:=Hd (Z.o.trans (f8.below Z.o.size (zL _)));obtain⟨w8,W⟩:=xq (f.drew.setRow w.heap.size D);rw[←W] at I W8 n B8;refine wp_region_held (S:=S34 d.heap.size E c) (by kernel_rfl) ?_;change wpAnyH _ _ _ _ _ _ _ _ f.drew;refine Xae 0 (.agg D) rfl (fun w' hw'=>Xdd (ps:=#[]) rfl (by simpa using BK.o w')) A ?_;refine Xae 1 (.pointer (some ⟨d.heap.size,0,none⟩)) rfl (fun w' hw'=>by obtain⟨J,L⟩:=hw';go_simp) A ?_;refine Xae 2 (.pointer (some ⟨d.heap.size,0,none⟩)) rfl (fun w' hw'=>by obtain⟨J,L⟩:=hw';go_simp) A ?_;refine Xae 3 (.pointer (some ⟨d.heap.size,3,none⟩)) rfl (fun w' hw'=>by obtain⟨J,L⟩:=hw';go_simp) A ?_;refine Xae 4 (.int .i64 E) rfl (fun w' hw'=>by obtain⟨J,L⟩:=hw';go_simp) A ?_;refine Xae 5 (.pointer (some ⟨d.heap.size,0,none⟩)) rfl (fun w' hw'=>by obtain⟨J,L⟩:=hw';go_simp) A ?_;refine Xae 6 (.pointer (some ⟨d.heap.size,0,none⟩)) rfl (fun w' hw'=>by obtain⟨J,L⟩:=hw';go_simp) A ?_;refine Xae 7 (.pointer (some ⟨d.heap.size,4,none⟩)) rfl (fun w' hw'=>by obtain⟨J,L⟩:=hw';go_simp) A ?_;refine Xae 8 (.int .i64 (c:Int)) rfl (fun w' hw'=>by obtain⟨J,L⟩:=hw';go_simp) A ?_;refine Xbe (i:=9) (by kernel_rfl) rfl rfl (Xak (t:=139) (x:=.tmp 2) (y:=.tmp 56) (ad:=⟨w.heap.size,0,none⟩) (u:=.agg D) rfl (by kernel_rfl) (by kernel_rfl) I) n ?_;refine Xa6 (i:=10) (v:=.int .i64 E) (by kernel_rfl) rfl rfl (Xal (x:=.tmp 60) rfl (by kernel_rfl)) n ?_;refine Xa6 (i:=11) (v:=.int .i64 (c:Int)) (by kernel_rfl) rfl rfl (Xal (x:=.tmp 64) rfl (by kernel_rfl)) n ?_;refine wpAnyH_done (by kernel_rfl) ?_ _;have W8:=Hd W8;clear A n K M I f8 W Q R;go_simp;refine‹∀(a:Act) (w_1:World),Code.wp _ _ _ a w_1→_› _ _ ?_;go_wp2_with fail;exact zP (Xay results90 _ _ w.heap.size _ _ _ _ rfl W8.o underlying139 rfl (by rw[m.o.1];exact Xa3)) rfl ⟨D,E,by rw[←r.o];rfl,m.o,B8.o⟩
 have aJ:∀k<5,x≠kN k:=fun k B e=>hk ⟨k,B,e⟩;have LK:=Yi8 hm x (fun p hp=>by obtain⟨j,hj,rfl⟩:=(T p).1 hp;exact Yev (aJ j hj));have F1:Hid (Xd4 (bs s)=11):=Hd (by rw[F0.o,Yb8 aJ]);obtain⟨G,W3,f3⟩:=M2.o.storeAll m.o;have G:=Hd G;have W3:=Hd W3;have B3:=Hd (B2.o.trans (f3.below B2.o.size (zL _)));clear hm T hk aJ F0 f3;go_upto_region 6 with fail;clear LK;refine wp_region_list ?_;simp only[];refine Xah 139 rfl rfl ⟨_,BK.o _,?_⟩;go_wp2_with ((with_reducible refine Xaa 139 rfl _ _ rfl ?_);refine⟨_,_,_,rfl,rfl,G.o,?_⟩)
 exact zP (Xay results90 _ _ w.heap.size _ _ _ _ rfl W3.o underlying139 rfl (by rw[m.o.1];exact Xa3)) rfl ⟨D,0,by rw[F1.o];rfl,m.o,B3.o⟩
def CB (w:World)(b:Nat)(c:Cn)(gv rv:Value)(T:TypeId):Prop:=w.heap[b]?=some (.cells (c.cells gv rv) T (0,0))
theorem CB.on {w w':World}{b:Nat}{c:Cn}{gv rv:Value}{T:TypeId}(h:CB w b c gv rv T)(hb:Bw w w'):CB w' b c gv rv T:=(hb.block b (zY h)).trans h
theorem CB.new (w:World)(c:Cn)(gv rv:Value)(T:TypeId):CB (w.alloc (.cells (c.cells gv rv) T)) w.heap.size c gv rv T:=heap_alloc_last w _
theorem CB.lt {w:World}{b:Nat}{c:Cn}{gv rv:Value}{T:TypeId}(h:CB w b c gv rv T):b<w.heap.size:=zY h
section
variable {w:World} {b:Nat} {c:Cn} {gv rv:Value} {T:TypeId} (h:CB w b c gv rv T)
include h
theorem CB.at {j:Nat}{u:Value}(hu:(c.cells gv rv)[j]?=some u):w.cell? ⟨b,j,none⟩=some u:=by rw[cell_of_row w b j _ _ _ h];exact hu
theorem CB.part (off:Nat){ids:Array Value}(hp:∀j u,ids[j]?=some u→(c.cells gv rv)[off+j]?=some u):∀j u,ids[j]?=some u→w.cell? ⟨b,off+j,none⟩=some u:=fun j u hu=>by rw[cell_of_row w b (off+j) _ _ _ h];exact hp j u hu
theorem CB.pk (hc:c.Ok):Ld 37 ⟨b,56,none⟩ w (.agg (pkC c.height c.root)):=Xn1 w b 56 hc.root.len (h.part 56 (Yb2 hc gv rv))
theorem CB.sup (hc:c.Ok):Ld 26 ⟨b,21,none⟩ w (.agg (idA c.sup)):=Xai w b 21 26 _ _ underlying26 rfl (by rw[Xaf,hc.sup.len];exact Xbh) (h.part 21 (Yms hc gv rv))
theorem CB.author (hc:c.Ok):Ld 35 ⟨b,1,none⟩ w (.agg (idA c.author)):=Xai w b 1 35 _ _ underlying35 rfl (by rw[Xaf,hc.author.len];exact Xj4) (h.part 1 (Xqr c gv rv))
end
theorem Xea:(prog.info? 39).map (·.size)=some 75:=by kernel_rfl
theorem CB.all {w:World}{b:Nat}{c:Cn}{gv rv:Value}{T:TypeId}(h:CB w b c gv rv T)(hc:c.Ok):Ld 39 ⟨b,0,none⟩ w (.agg (c.cells gv rv)):=
 Xai w b 0 39 _ _ underlying39 rfl (by rw[Xci hc];exact Xea) (Xex w b T _ _ h)
theorem Xhk {n:Int}(h:(Lit.int .i64 n).wf=true):-9223372036854775808≤n∧n≤9223372036854775807:=by simp[Lit.wf,IntKind.min,IntKind.max,IntKind.signed,IntKind.bits] at h;omega
def Ync (c:Cn)(w:World)(e:Ending)(w':World):Prop:=
 ∃t:ByteArray,e=.returned (.tuple #[.string t,.int .i64 (eIf (!Xau c.height) 2:Nat)])∧(Xau c.height=true→bs t=Xun c.p)∧t.size≤2000∧Bw w w'
theorem Xlb (a b:ByteArray):bs (a++b)=bs a++bs b:=by simp[bs,ByteArray.data_append]
theorem Yan (w:World)(c:Cn)(hc:c.Ok)(gv rv:Value)(hE:Env w):Calls prog 36 #[.agg (c.cells gv rv)] w (Ync c w):=by
 have n:=CB.new w c gv rv 39;have m:Hid (Bw w (w.alloc (.cells (c.cells gv rv) 39))):=Hd ((zR _ _).alloc (zL _) _);have k:=Hd (n.pk hc);have l:=Hd (Xzr (w.alloc (.cells (c.cells gv rv) 39)) c.height hc.root (hE.on m.o));have a:Hid (∀w',Below (w.alloc (.cells (c.cells gv rv) 39)).heap.size (w.alloc (.cells (c.cells gv rv) 39)) w'→w'.cell? ⟨w.heap.size,55,none⟩=some (.int .i64 c.number)):=Hd (fun w' hb=>(n.on hb).at (Yb4 hc gv rv));have u:Hid (∀w',Env w'→Calls prog 38 #[.int .i64 c.number] w' (Yc1 c.number w')):=Hd (fun w' he=>Xk5 c.number (Xhk hc.number).1 (Xhk hc.number).2 w' he);have B:=Hd hE;have D:Hid (Xun c.p=Xfh c.number++32::Xi8 ((c.height%256).toNat::c.root)):=Hd rfl;obtain⟨cs,i⟩:=xq (c.cells gv rv);rw[←i] at m k l a⊢;obtain⟨pk,j⟩:=xq (pkC c.height c.root);rw[←j] at k l;clear i j n hE hc;go_enter func36,ntmps36;go_wp2_with ((with_reducible refine Xab 37 rfl _ rfl ?_);refine⟨_,_,rfl,k.o,?_⟩)
 refine l.o.mono ?_;rintro e w1 ⟨t,rfl,x,G,f⟩;have r:=bh m f;have q:=a.o w1 f;have s:=Hd (u.o w1 (B.o.on r.o));have C:=Hd x;clear f l k a u x;go_wp2_with fail;refine s.o.mono ?_;rintro e H ⟨d,rfl,v,F,g⟩;have z:=bh r g;have A:=Hd v;have I:(d++(⟨#[32]⟩:ByteArray)).size≤22:=by rw[ByteArray.size_append];show d.size+1≤22;omega
 have y:(d++(⟨#[32]⟩:ByteArray)++t).size≤2000:=by rw[ByteArray.size_append];omega
 have E:=Hd y;clear g s q v y;go_wp2_with fail;go_ret2;exact⟨_,rfl,(fun h=>by rw[Xlb,Xlb,A.o,C.o h,D.o];simp[bs]),E.o,z.o⟩
theorem Fr1.env {b:Nat}{w w':World}(h:Fr1 b w w')(hE:Env w)(h9:9≤b):Env w':=Xbv hE h9 h
theorem CB.fr {w w':World}{b p:Nat}{c:Cn}{gv rv:Value}{T:TypeId}(h:CB w p c gv rv T)(hf:Fr1 b w w')(hne:p≠b):CB w' p c gv rv T:=(hf.other p (zY h) hne).trans h
theorem Ygd (w:World)(b n:Nat)(h:Ck w b n)(c:Cn)(hc:c.Ok)(gv rv:Value)(hs:c.ctl.size≤1000000)(hE:Env w)(h9:9≤b):Calls prog 46 #[.pointer (some ⟨b,0,none⟩),.agg (c.cells gv rv)] w (Xb7 w b (fe n (Xx4 c.p))):=by
 have aA:=h.lt;have u:Bw w (w.alloc (.cells (c.cells gv rv) 39)):=(zR _ _).alloc (zL _) _;have G:=CB.new w c gv rv 39;obtain⟨w0,g⟩:=xq (w.alloc (.cells (c.cells gv rv) 39));rw[←g] at u G;have R:=Hd (h.below u);have M:=Hd (hE.on u);have O:Hid (Fr1 b w w0):=Hd (Fr1.of_below u);have x:=Hd G;have y:=Hd hc;have i:Hid (∀w',CB w' w.heap.size c gv rv 39→w'.cell? ⟨w.heap.size,53,none⟩=some (.string c.ctl)):=Hd (fun w' h=>h.at (Xsy hc gv rv));have d:Hid (Xx4 c.p=if bs c.ctl=[] then 0 else fe (eIf (!sqz (bs c.ctl)) 3) (fe (Xd4 (bs c.ctl)) (eIf (!decide (c.sup=zero32)) 11))):=Hd rfl;have E:w.heap.size≠b:=by omega
 have A:=Hd E;have f:=i.o w0 G;obtain⟨t,ht⟩:=xq c.ctl;rw[←ht] at i d f hs;obtain⟨cs,D⟩:=xq (c.cells gv rv);rw[←D] at g⊢;have S:=Hd g;clear ht D h u G hE hc E g;by_cases h0:t.size=0;·obtain rfl:=Xd9 h0;have L:Hid (fe n (Xx4 c.p)=n):=Hd (by rw[d.o,qP (show bs ⟨#[]⟩=[] from rfl),Xqf]);clear d h0;go_enter func46,ntmps46;go_upto_region 1 with fail;rw[←S.o];go_wp2_with fail;go_end0;exact⟨⟨_,rfl⟩,by rw[L.o];exact R.o,O.o⟩
 have n0:=Xfa h0;have L:Hid (fe n (Xx4 c.p)=fe (fe (fe n (eIf (!sqz (bs t)) 3)) (Xd4 (bs t))) (eIf (!decide (c.sup=zero32)) 11)):=Hd (by rw[d.o,qN (fun e=>h0 (by rw[←Xac,e];rfl)),Xjm,Xjm]);have Q:=Hd (Xys t w0 hs M.o);have T:=Hd (Xbs w0 b n R.o (!sqz (bs t)) 3);obtain⟨q,hq⟩:=xq (sqz (bs t));rw[←hq] at Q T L;clear hq d h0;go_enter func46,ntmps46;go_upto_region 1 with fail;rw[←S.o];clear S;go_wp2_with (go_at_call 88;refine Q.o.mono ?_;rintro e w' ⟨rfl,rfl⟩)
 refine T.o.mono ?_;rintro e w1 ⟨⟨v,rfl⟩,h1,I⟩;have W:=Hd h1;have V:=Hd (O.o.trans I);have K:=Hd (x.o.fr I A.o);have N:=Hd (I.env M.o h9);clear Q T h1 I R O x M f n0;have f:=i.o w1 K.o;have P:=Hd (Xxe t w1 hs N.o);obtain⟨m,hm⟩:=xq (Xd4 (bs t));unfold Yhv at P;rw[←hm] at P L;clear hm;go_wp2_with fail;refine P.o.mono ?_;rintro e s ⟨B,a,rfl,C,k⟩;have H:=Hd C;have j:Hid (∀zz:Array Value,zz.size=56→Sv 139 ⟨s.heap.size,0,none⟩ (.agg B) (s.alloc (.cells zz 139)) (s.alloc (.cells B 139))):=Hd (fun zz J=>
  run_storeVar_new s 139 zz B (by rw[H.o.1];exact Xa3) (by rw[J,H.o.1]) H.o.2)
 have r:Bw w1 (s.alloc (.cells B 139)):=k.alloc k.size _;obtain⟨w3,F⟩:=xq (s.alloc (.cells B 139));rw[←F] at r j;have X:=W.o.below r;have F3:=Hd (V.o.trans (Fr1.of_below r));have C3:=Hd (K.o.on r);have E3:=Hd (N.o.on r);have TK:=Hd (Xdp w3 b _ X m);clear C k r F P W V K N f X;go_wp2_with ((with_reducible refine Xaa 139 rfl _ _ rfl ?_);refine⟨_,_,_,rfl,rfl,j.o _ rfl,?_⟩)
 refine TK.o.mono ?_;rintro e w4 ⟨⟨v,rfl⟩,h4,U⟩;have H4:=Hd h4;have F4:=Hd (F3.o.trans U);have c4:=C3.o.fr U A.o;have Y:=Hd (c4.sup y.o);have Z:=Hd (Xf7 w4 y.o.sup);obtain⟨z,J⟩:=xq (decide (c.sup=zero32));rw[←J] at Z L;clear J TK h4 U j H c4;go_upto_region 5 with fail;go_wp2_with ((with_reducible refine Xab 26 rfl _ rfl ?_);refine⟨_,_,rfl,Y.o,?_⟩)
 refine Z.o.mono ?_;rintro e w5 ⟨rfl,l⟩;have W5:=Hd (Xbs w5 b _ (H4.o.below l) (!z) 11);have F5:=Hd (F4.o.trans (Fr1.of_below l));clear l Z Y;go_wp2_with fail;refine W5.o.mono ?_;rintro e w6 ⟨⟨v,rfl⟩,h6,f6⟩;have H6:=Hd h6;have F6:=Hd (F5.o.trans f6);clear h6 f6 W5;go_wp2_with fail;go_end0;exact⟨⟨_,rfl⟩,by rw[L.o];exact H6.o,F6.o⟩
end Go.Proofs.YtjolcnopipbkhaaGreatDoor
/- article.badByte. -/
namespace Go.Proofs.YtjolcnopipbkhaaGreatDoor
open Go.Proofs.Tryz
open Go.RowKit Go.Shelf
attribute [local go_sem] Oper.semAt_some
set_option linter.unusedVariables false
set_option maxHeartbeats 100000000
set_option maxRecDepth 100000
theorem Ygr (w:World)(n:Nat):Rx 144 #[.int .i32 (n:Int)] w (.bool (Xu8 n)):=by
 obtain⟨b,a⟩:=xq (Xu8 n);rw[←a];have c:=Hd a;clear a;rcases(by omega:n<32∨(32≤n∧n<127)∨(127≤n∧n≤159)∨(n=8232)∨(n=8233)∨(159<n∧n≠8232∧n≠8233)) with h|⟨h,h2⟩|⟨h,h2⟩|rfl|rfl|⟨h,h2,h3⟩
 all_goals
  try have d:((n:Int)==8232)=false:=Xar (by omega)
  try have e:((n:Int)==8233)=false:=Xar (by omega)
  go_enter func144,ntmps144;go_wp2_with fail;go_ret;exact⟨Xa5 (by rw[c.o,Bool.eq_iff_iff];simp[Xu8];try omega),rfl⟩
def NBox (W:World)(p:Nat):Prop:=∃n:Nat,Boxed W p 3 (.int .i64 (n:Int))
theorem NBox.own (p B:Nat):OwnFrom B (fun(_:List (Nat×Nat)) W=>NBox W p):=fun s X Y row hs hg hrow=>by obtain⟨n,h⟩:=hs;exact⟨n,(Own.from (boxed_own p 3 (fun _:Unit=>.int .i64 (n:Int))) B) () X Y row h hg hrow⟩
def BbI (w:World)(p:Nat)(s:ByteArray)(pre:List (Nat×Nat))(W:World):Prop:=
 Boxed W p 3 (.int .i64 0)∧(Boxed W (p+1) 9 (.string s)∧(Hid (pre.all (fun x=>gd true x.2)=true)∧Below p w W))
def BbX (w:World)(p:Nat)(s:ByteArray)(c:Code)(pre:List (Nat×Nat))(W:World):Prop:=
 NBox W p∧(Hid (c=.ret∧pre.all (fun x=>gd true x.2)=false)∧Below p w W)
theorem BbI.own (w:World)(p:Nat)(s:ByteArray)(hp:p≤w.heap.size)(B:Nat)(hB:p≤B):OwnFrom B (BbI w p s):=
 OwnFrom.and (Own.from (boxed_own p 3 (fun _=>.int .i64 0)) _) (OwnFrom.and (Own.from (boxed_own (p+1) 9 (fun _=>.string s)) _) (OwnFrom.and (Xdb B _) (ownFrom_below hp hB)))
theorem BbX.own (w:World)(p:Nat)(s:ByteArray)(c:Code)(hp:p≤w.heap.size)(B:Nat)(hB:p≤B):OwnFrom B (BbX w p s c):=
 OwnFrom.and (NBox.own p B) (OwnFrom.and (Xdb B _) (ownFrom_below hp hB))
def Ynh (l:List Nat)(w:World)(e:Ending)(w':World):Prop:=
 ∃n:Int,e=.returned (.int .i64 n)∧(Xhz true l=true→n<0)∧(Xhz true l=false→0≤n)∧Bw w w'
theorem Ygj (s:ByteArray)(w:World)(hs:s.size≤maxLen):Calls prog 95 #[.string s] w (Ynh (bs s) w):=by
 have T:=Hd hs;have Q:=Hd (fun w=>Xl2 s w hs);clear hs;refine(callsIn_wide (n:=5)).1 ?_;refine callsIn_of_wp_marks func95 rfl trivial ?_ rfl;simp only[ntmps95,List.size_toArray,List.length_cons,List.length_nil,Nat.reduceAdd,Nat.reduceSub,Array.replicate_succ,Array.replicate_zero,List.push_toArray,List.append_toArray,List.nil_append,List.cons_append];gi_wp2_with fail;refine⟨trivial,?_⟩;gi_at_call 137;refine(Yg6 Fence.wide _ trivial rfl _ _).mono ?_;rintro e w' ⟨rfl,rfl⟩;gi_wp2;obtain⟨p,A⟩:=xq w.heap.size;obtain⟨u,j⟩:∃u,((w.alloc (.cells #[.int .i64 0] 3)).alloc (.cells #[.string s] 9))=u:=⟨_,rfl⟩
 have z0:u.heap.size=p+2:=by rw[←j,A];simp
 have B:BbI w p s [] u:=by
  rw[←j,A];refine⟨?_,?_,Hd rfl,?_⟩;·exact Xcz (Boxed.new w 3 (.int .i64 0)) ((zR _ _).alloc (zL _) _)
  ·have:=Boxed.new (w.alloc (.cells #[.int .i64 0] 3)) 9 (.string s);simpa using this
  exact((zR _ w).alloc (zL _) _).alloc (by simp) _
 rw[j,←A];have J:u.cell? ⟨p+1,0,none⟩=some (.string s):=B.2.1.cell;have f:=Hd A;clear j A;refine wpIn_rangeFunc_ownF (F:=Fence.wide) (n:=5) rfl (by omega) (gf:=185) (lb:=#[.pointer (some ⟨p+1,0,none⟩)]) rfl trivial (enters_of func185 (by kernel_rfl) rfl)
  (Xph 4 (by omega) (p+1) s T.o u (by omega) J) (fun h k=>Eq.trans k h) ?keep (zR _ _) (fun _=>rfl)
  (BbI w p s) (BbX w p s) (BbI.own w p s (by rw[f.o];exact zL _) _ (by omega)) (fun c=>BbX.own w p s c (by rw[f.o];exact zL _) _ (by omega)) B
  (fun x=>{tmps:=#[.string s,undef,.pointer (some ⟨p,0,none⟩),.int .i64 (x.1:Int),.int .i32 (x.2:Int),undef,undef,.string s,.func (.func 185) #[] #[.pointer (some ⟨p+1,0,none⟩)],.int .i64 (x.1:Int),.int .i32 (x.2:Int),undef,undef,undef,undef,undef,undef,undef,undef,undef,undef,undef,undef,undef,undef,undef],defers:=[]})
  ?assign ?body ?done ?stop
 case keep=>intro W l o P hl _ _ _;show(W.putObj l P).heap[p+1]?=W.heap[p+1]?;exact(grownBy_putObj' W l P).block _ (by have:=zY ‹_›;omega) (fun e=>by cases e;omega)
 case assign=>rintro l x W K m;unfold rnV;gi_wp2;exact m
 case body=>
  rintro l L x W g aA;have I:=g.1.cell;have Z:=g.1.frozen;have a:=Hd g;have H:=Hd (fun w=>Ygr w x.2);have z:∃b,b=Xu8 x.2:=⟨_,rfl⟩
  obtain⟨b,t⟩:=z;rw[←t] at H;have M:=Hd t;clear t g;by_cases h9:x.2=9;·have q9:((x.2:Int) !=9)=false:=Xaw (by omega);have C:=Hd h9;clear h9;gi_wp2;refine⟨trivial,?_⟩;gi_wp2;refine⟨KeepsOthers.refl _,rfl,a.o.1,a.o.2.1,Hd ?_,a.o.2.2.2⟩;rw[List.all_append,a.o.2.2.1.o];simp[gd,C.o]
  have q9:((x.2:Int) !=9)=true:=Xaq (by omega);have C:=Hd h9;clear h9;cases b
  ·gi_wp2_with (refine⟨trivial,?_⟩;gi_at_call 144;refine(CallsIn.inRound l (callsIn_wide.2 (H.o _))).mono ?_;rintro e w1 ⟨rfl,rfl⟩)
   refine⟨KeepsOthers.refl _,rfl,a.o.1,a.o.2.1,Hd ?_,a.o.2.2.2⟩;rw[List.all_append,a.o.2.2.1.o];simp[gd,←M.o]
  gi_wp2_with (refine⟨trivial,?_⟩;gi_at_call 144;refine(CallsIn.inRound l (callsIn_wide.2 (H.o _))).mono ?_;rintro e w1 ⟨rfl,rfl⟩)
  refine⟨KeepsOthers.setCell _ _ _,⟨⟨x.1,Xez a.o.1 0 _⟩,Hd ⟨rfl,?_⟩,a.o.2.2.2.setCell (p:=⟨p,0,none⟩) (zL _) _⟩⟩;rw[List.all_append,Bool.and_eq_false_iff];exact .inr (by simp[gd,←M.o,C.o])
 case done=>
  rintro D ys W Y rfl g m;have I:=g.1.cell;have Z:=g.1.frozen;have a:=Hd g;have G:Hid (Xhz true (bs s)=vld (bs s)):=Hd (by unfold Xhz;rw[g.2.2.1.o,Bool.and_true]);have R:=Hd (Q.o W);have HK:=Hd m;clear g m;gi_wp2_with fail;refine⟨trivial,?_⟩;gi_at_call 145;refine(callsIn_wide.2 R.o).mono ?_;rintro e w1 ⟨n,U,rfl,v,y,⟨q,rfl⟩⟩;cases hv:vld (bs s)
  ·have q1:(U !=0)=true:=Xaq (y hv);have E:=Hd hv;clear v y hv;gi_wp2;have d:=(KeepsOthers.setCell (W.drewN q) ⟨p,0,none⟩ (.int .i64 (n:Int))).same D _ HK.o rfl;refine⟨by simp,.inl ⟨_,_,rfl,run_takeDeferred d,?_⟩⟩;have i:=cell_kept (World.cell?_setCell_same' (W.drewN q) ⟨p,0,none⟩ (.int .i64 (n:Int)) (by show(W.cell? _).isSome=true;rw[I];rfl)) (grownBy_putObj' _ D (.deferred none)) (fun r e=>by cases e;exact⟨_,d,rfl⟩);refine⟨.int .i64 (n:Int),?_,(n:Int),rfl,(fun h=>by rw[G.o,E.o] at h;cases h),(fun _=>by omega),?_⟩;·simp[results,Tryz.f95,go_sem,i]
   exact(((a.o.2.2.2.mono (Nat.le_of_eq f.o.symm)).trans ((Dr.below ⟨q,rfl⟩).mono (by have:=a.o.2.1.lt;have:=f.o;omega))).setCell (p:=⟨p,0,none⟩) (Nat.le_of_eq f.o.symm) _).trans (belowK_b (w:=w) (zL _) _ D _ _ (by have:=f.o;omega) d rfl rfl)
  obtain rfl:=v hv;have E:=Hd hv;clear v y hv;gi_wp2;have d:=(KeepsOthers.setCell (W.drewN q) ⟨p,0,none⟩ (.int .i64 (-1))).same D _ HK.o rfl;refine⟨by simp,.inl ⟨_,_,rfl,run_takeDeferred d,?_⟩⟩;have i:=cell_kept (World.cell?_setCell_same' (W.drewN q) ⟨p,0,none⟩ (.int .i64 (-1)) (by show(W.cell? _).isSome=true;rw[I];rfl)) (grownBy_putObj' _ D (.deferred none)) (fun r e=>by cases e;exact⟨_,d,rfl⟩);refine⟨.int .i64 (-1),?_,-1,rfl,(fun _=>by omega),(fun h=>by rw[G.o,E.o] at h;cases h),?_⟩;·simp[results,Tryz.f95,go_sem,i]
  exact(((a.o.2.2.2.mono (Nat.le_of_eq f.o.symm)).trans ((Dr.below ⟨q,rfl⟩).mono (by have:=a.o.2.1.lt;have:=f.o;omega))).setCell (p:=⟨p,0,none⟩) (Nat.le_of_eq f.o.symm) _).trans (belowK_b (w:=w) (zL _) _ D _ _ (by have:=f.o;omega) d rfl rfl)
 case stop=>rintro D c L W Y ⟨q,O⟩ g m;obtain⟨⟨n,v⟩,y,V⟩:=g;obtain⟨rfl,N⟩:=y.o;have X:=v.cell;have S:Hid (Xhz true (bs s)=false):=Hd (by unfold Xhz;rw[←O,List.all_append,N];simp);clear O N;gi_wp2;refine⟨by simp,.inl ⟨_,_,rfl,run_takeDeferred m,?_⟩⟩;have i:=cell_kept X (grownBy_putObj' _ D (.deferred none)) (fun r e=>by cases e;exact⟨_,m,rfl⟩);refine⟨.int .i64 (n:Int),?_,(n:Int),rfl,(fun h=>by rw[S.o] at h;cases h),(fun _=>by omega),(V.mono (Nat.le_of_eq f.o.symm)).trans (belowK_b (w:=w) (zL _) _ D _ _ (by have:=f.o;omega) m rfl rfl)⟩;simp[results,Tryz.f95,go_sem,i]
end Go.Proofs.YtjolcnopipbkhaaGreatDoor
/- Plain: the lines of a body and their errors. -/
namespace Go.Proofs.YtjolcnopipbkhaaGreatDoor
open Go.Proofs.Tryz
open Go.RowKit Go.Maps
set_option linter.unusedVariables false
set_option maxRecDepth 100000
set_option maxHeartbeats 100000000
def Xi5 (n a:Nat)(ln:List Nat):Nat:=if a+ln.length=n then 4 else if 998<ln.length then 5 else if Xhz true ln=false then 6 else 0
def Xce (n:Nat):Nat→List (List Nat)→Nat
 |_,[]=>0
 |a,ln::r=>if Xi5 n a ln≠0 then Xi5 n a ln else Xce n (a+ln.length+1) r
def Xot (ls:List (List Nat)):Nat:=(ls.map fun l=>l.length+1).sum
def Yc4:Nat→List Nat→List (List Nat)
 |0,_=>[]
 |k+1,l=>if l=[] then[] else Xff l::Yc4 k (l.drop ((Xff l).length+1))
def lns (l:List Nat):List (List Nat):=Yc4 l.length l
theorem Xr5 (l:List Nat):(Xff l).length≤l.length:=by unfold Xff;exact(List.takeWhile_sublist _).length_le
theorem Xuk (n:Nat):∀(k a:Nat) (l:List Nat),a+l.length=n→Xce n a (Yc4 k l)=Xoi k l
 |0,_,_,_=>rfl
 |k+1,a,l,h=>by
  by_cases h0:l=[]
  ·subst h0;simp[Yc4,Xoi,Xce]
  have c:=Xr5 l;simp only[Yc4,Xoi,qN h0,Xce];have e:Xi5 n a (Xff l)=if(Xff l).length=l.length then 4 else if 998<(Xff l).length then 5 else if Xhz true (Xff l)=false then 6 else 0:=by
   unfold Xi5;by_cases h1:(Xff l).length=l.length;·rw[qP (by omega),qP h1]
   rw[qN (by omega),qN h1]
  rw[e];by_cases h1:(Xff l).length=l.length;·simp[h1]
  by_cases h2:998<(Xff l).length;·simp[h1,h2]
  by_cases h3:Xhz true (Xff l)=false;·simp[h1,h2,h3]
  have b:=Xuk n k (a+(Xff l).length+1) (l.drop ((Xff l).length+1)) (by rw[List.length_drop];omega);simp[h1,h2,h3,b]
theorem Yjb (l:List Nat):Xce l.length 0 (lns l)=Xfy l:=Xuk l.length l.length 0 l (by omega)
theorem Xic (n:Nat):∀(p q:List (List Nat)) (a:Nat),Xce n a (p++q)=if Xce n a p≠0 then Xce n a p else Xce n (a+Xot p) q
 |[],q,a=>by simp[Xce,Xot]
 |x::p,q,a=>by
  simp only[List.cons_append,Xce];rw[Xic n p q];by_cases h:Xi5 n a x=0;·simp[h,Xot,Nat.add_assoc]
  simp[h]
theorem Xki (n:Nat)(p:List (List Nat))(x:List Nat)(h:Xce n 0 p=0):Xce n 0 (p++[x])=Xi5 n (Xot p) x:=by rw[Xic,h];simp[Xce];intro e;exact e.symm
theorem Ycn (p:List (List Nat))(x:List Nat):Xot (p++[x])=Xot p+x.length+1:=by simp[Xot];omega
theorem Ykl (p:List (List Nat))(m:Nat)(h:∀x∈p,x.length≤m):Xot p≤p.length*(m+1):=by
 induction p with
 |nil=>simp[Xot]
 |cons x p ih=>have b:=h x (by simp);have a:=ih (fun y hy=>h y (by simp[hy]));simp only[Xot,List.map_cons,List.sum_cons,List.length_cons] at a⊢;rw[Nat.succ_mul];omega
theorem Yjc:∀(n:Nat) (l:List Nat) (k:Nat),l.length≤n→l.length≤k→Yc4 k l=Yc4 l.length l:=by
 intro n
 induction n with
 |zero=>intro l k b a;have:l=[]:=List.length_eq_zero_iff.1 (by omega);subst this;cases k<;>rfl
 |succ n ih=>
  intro l k b a
  cases l with
  |nil=>cases k<;>rfl
  |cons x l=>
   cases k with
   |zero=>simp at a
   |succ k=>
    rw[List.length_cons];simp only[Yc4];have d:l.length≤n:=by simpa using b
    have c:l.length≤k:=by simpa using a
    rw[ih _ k (by simp;omega) (by simp;omega),ih _ l.length (by simp;omega) (by simp)]
theorem Ye4 {l:List Nat}(h:l≠[]):lns l=Xff l::lns (l.drop ((Xff l).length+1)):=by
 cases l with
 |nil=>exact absurd rfl h
 |cons x l=>unfold lns;rw[List.length_cons];simp only[Yc4];rw[qN (by simp),Yjc l.length _ l.length (by simp) (by simp)]
end Go.Proofs.YtjolcnopipbkhaaGreatDoor
/- article.Lines, CheckBody. -/
namespace Go.Proofs.YtjolcnopipbkhaaGreatDoor
open Go.Proofs.Tryz
open Go.RowKit Go.Shelf
attribute [local go_sem] Oper.semAt_some
set_option linter.unusedVariables false
set_option maxHeartbeats 100000000
set_option maxRecDepth 100000
abbrev Ln:={x:Nat×ByteArray//x.2.size≤1000000}
def lnV (x:Ln):Array Value:=#[.int .i64 (x.1.1:Int),.string x.1.2]
def lnL (pre:List Ln):List (List Nat):=pre.map fun x=>bs x.1.2
theorem Xjh (pre:List Ln)(x:Ln):lnL (pre++[x])=lnL pre++[bs x.1.2]:=by simp[lnL]
theorem Yjd (pre:List Ln):(lnL pre).length=pre.length:=by simp[lnL]
theorem Yl1 (pre:List Ln):Xot (lnL pre)≤pre.length*1000001:=by have:=Ykl (lnL pre) 1000000 (fun x hx=>by obtain⟨y,_,rfl⟩:=List.mem_map.1 hx;rw[Xac];exact y.2);rwa [Yjd] at this
theorem Xyf (l:List Nat):Xth 10 l=Xff l:=rfl
theorem Yac (n:Nat)(hn:1≤n)(l Bs B:Nat)(s:ByteArray)(hs:s.size≤1000000)(J Jx:List Ln→World→Prop)(hJa:AbidesFrom B J) (hY:∀a x W,J a W→a.length<s.size+1→YieldAt Fence.wide (n-1) prog l (lnV x) W fun e W'=>
     (e=.returned (.bool true)∧J (a++[x]) W'∧Below 9 W W')∨(e=.returned (.bool false)∧Jx (a++[x]) W'))
    (W:World) (hE:Env W) (hBs:W.cell? ⟨Bs,0,none⟩=some (.string s)) (h0:J [] W):
    CallsIn Fence.wide n prog 143 #[.func (.yield l) #[] #[],.pointer (some ⟨Bs,0,none⟩)] W fun e W'=>(∃v,e=.returned v)∧
     ((∃ys:List Ln,lnL ys=lns (bs s)∧J ys W')∨(∃a:List Ln,(∃q,lnL a++q=lns (bs s))∧Jx a W')):=by
 refine callsIn_of_wp func143 rfl trivial ?_ rfl;simp only[ntmps143,List.size_toArray,List.length_cons,List.length_nil,Nat.reduceAdd,Nat.reduceSub,Array.replicate_succ,Array.replicate_zero,List.push_toArray,List.append_toArray,List.nil_append,List.cons_append];gi_wp2
 gi_loopw [3,4] (fun r i wr=>∃(k:Nat) (t:ByteArray) (a:List Ln),r=.string t∧i=.int .i64 (k:Int)∧t.size+k≤s.size∧Hid (lns (bs s)=lnL a++lns (bs t))∧a.length≤k∧Env wr∧J a wr)
  (fun r i wr=>s.size-(intOf i).toNat)
 case atStart=>exact⟨0,s,[],rfl,rfl,by omega,rfl,Nat.zero_le _,hE,h0⟩
 case round=>
  obtain⟨k,t,a,rfl,rfl,S,c,N,m,w⟩:=hrel;by_cases h1:t.size=0;·obtain rfl:=Xd9 h1;have h:Hid (lns (bs s)=lnL a):=Hd (by rw[c.o];simp[bs,lns,Yc4]);clear h1 m;gi_wp2;go_end0;exact⟨⟨_,rfl⟩,.inl ⟨a,h.o.symm,w⟩⟩
  have T:=Xfa h1;have C:=Hd (Yjz t 10 wr (by omega) m.mx);have E:=Hd m;have F:Hid (lns (bs t)=Xff (bs t)::lns ((bs t).drop ((Xff (bs t)).length+1))):=Hd (Ye4 (fun e=>h1 (by rw[←Xac,e];rfl)));have u:=Xr5 (bs t);rw[Xac] at u;clear m;gi_wp2_with fail;refine⟨trivial,?_⟩;refine(callsIn_wide.2 C.o).mono ?_;rintro e w1 ⟨x,y,b,rfl,D,p,H,O,d⟩;rw[show(10:UInt8).toNat=10 from rfl,Xyf] at D p H;have L:J a w1:=by obtain⟨q,rfl⟩:=d;exact hJa _ _ _ _ w (Xkx _ _) (fun r e=>by cases e)
  have I:=Hd (E.o.on d.below);have Q:y.size+1≤t.size:=by have:=congrArg List.length p;rw[Xac,List.length_drop,Xac] at this;omega
  have h:Hid (lns (bs s)=lnL (a++[⟨(k,x),by show x.size≤1000000;omega⟩])++lns (bs y)):=Hd (by rw[c.o,F.o,Xjh];simp[D,p]);clear w d C D p H F E;obtain⟨R,tmps,j,G,g,M⟩:=hY a ⟨(k,x),by show x.size≤1000000;omega⟩ w1 L (by omega);unfold lnV at g;dsimp only at g;gi_wp2;refine M.mono ?_;rintro e P (⟨rfl,z,A⟩|⟨rfl,f⟩)
  ·have K:=Hd (I.o.below A (zL _));gi_wp2
   go_roundw
   case rel=>exact⟨k+1,y,a++[_],rfl,by go_num,by omega,h,by simp;omega,K.o,z⟩
   case measure=>simp[intOf];omega
  gi_wp2;refine zP (results_none rfl _ _ _) rfl ?_;exact⟨⟨_,rfl⟩,.inr ⟨_,⟨_,h.o.symm⟩,f⟩⟩
theorem Ye5 (F:Fence)(n:Nat)(h37:F.fn 94)(hro:F.round=none)(s:ByteArray)(w:World):CallsIn F n prog 94 #[.string s] w fun e w'=>e=.returned (.func (.func 143) #[] #[.pointer (some ⟨w.heap.size,0,none⟩)])∧w'=w.alloc (.cells #[.string s] 9):=by refine callsIn_of_wp func94 rfl h37 ?_ hro;simp only[ntmps94,List.size_toArray,List.length_cons,List.length_nil,Nat.reduceAdd,Nat.reduceSub,Array.replicate_succ,Array.replicate_zero,List.push_toArray,List.append_toArray,List.nil_append,List.cons_append];gi_wp2;go_ret;exact⟨rfl,rfl⟩
theorem Xr3 (n:Nat)(hn:1≤n)(Bs:Nat)(s:ByteArray)(hs:s.size≤1000000)(w:World)(hE:Env w)(hB:Bs<w.heap.size)(hc:w.cell? ⟨Bs,0,none⟩=some (.string s)):SeqStopsK Fence.wide n prog 143 #[.pointer (some ⟨Bs,0,none⟩)] lnV (Below 9) (fun ys=>lnL ys=lns (bs s)) (fun pre=>∃q,lnL pre++q=lns (bs s)) (s.size+1) w:=fun l J Jx W hW hJ _ hY h0=>
 Yac n hn l Bs W.heap.size s hs J Jx hJ hY W (hE.on hW) ((hW.cell (p:=⟨Bs,0,none⟩) hB).trans hc) h0
end Go.Proofs.YtjolcnopipbkhaaGreatDoor
/- article.CheckBody. -/
namespace Go.Proofs.YtjolcnopipbkhaaGreatDoor
open Go.Proofs.Tryz
open Go.RowKit Go.Shelf
attribute [local go_sem] Oper.semAt_some
set_option linter.unusedVariables false
set_option maxHeartbeats 100000000
set_option maxRecDepth 100000
def XBox (W:World)(p:Nat):Prop:=∃n:Int,Boxed W p 3 (.int .i64 n)
theorem XBox.own (p B:Nat):OwnFrom B (fun(_:List Ln) W=>XBox W p):=fun s X Y row hs hg hrow=>by obtain⟨n,h⟩:=hs;exact⟨n,(Own.from (boxed_own p 3 (fun _:Unit=>.int .i64 n)) B) () X Y row h hg hrow⟩
def CbI (w:World)(p:Nat)(s:ByteArray)(pre:List Ln)(W:World):Prop:=
 Boxed W p 9 (.string s)∧(Boxed W (p+1) 3 (.int .i64 0)∧(Boxed W (p+2) 32 (.int .i64 0)∧(Boxed W (p+3) 3 (.int .i64 (Xot (lnL pre):Nat))∧(Hid (Xce s.size 0 (lnL pre)=0)∧Below p w W))))
def CbX (w:World)(p:Nat)(s:ByteArray)(c:Code)(pre:List Ln)(W:World):Prop:=
 XBox W (p+1)∧(Boxed W (p+2) 32 (.int .i64 (Xce s.size 0 (lnL pre):Nat))∧(Hid (c=.ret∧Xce s.size 0 (lnL pre)≠0)∧Below p w W))
theorem CbI.own (w:World)(p:Nat)(s:ByteArray)(hp:p≤w.heap.size)(B:Nat)(hB:p≤B):OwnFrom B (CbI w p s):=
 OwnFrom.and (Own.from (boxed_own p 9 (fun _=>.string s)) _) (OwnFrom.and (Own.from (boxed_own (p+1) 3 (fun _=>.int .i64 0)) _) (OwnFrom.and (Own.from (boxed_own (p+2) 32 (fun _=>.int .i64 0)) _)
  (OwnFrom.and (Own.from (boxed_own (p+3) 3 (fun pre:List Ln=>.int .i64 (Xot (lnL pre):Nat))) _) (OwnFrom.and (Xdb B _) (ownFrom_below hp hB)))))
theorem CbX.own (w:World)(p:Nat)(s:ByteArray)(c:Code)(hp:p≤w.heap.size)(B:Nat)(hB:p≤B):OwnFrom B (CbX w p s c):=
 OwnFrom.and (XBox.own (p+1) B) (OwnFrom.and (Own.from (boxed_own (p+2) 32 (fun pre:List Ln=>.int .i64 (Xce s.size 0 (lnL pre):Nat))) _) (OwnFrom.and (Xdb B _) (ownFrom_below hp hB)))
theorem CbI.on {w:World}{p:Nat}{s:ByteArray}{pre:List Ln}{W W':World}(h:CbI w p s pre W)(hb:Bw W W'):CbI w p s pre W':=
 ⟨Xcz h.1 hb,Xcz h.2.1 hb,Xcz h.2.2.1 hb,Xcz h.2.2.2.1 hb,h.2.2.2.2.1,h.2.2.2.2.2.trans (hb.mono (Nat.le_of_lt h.1.lt))⟩
theorem CbI.stop {w:World}{p:Nat}{s:ByteArray}{pre:List Ln}{W:World}(h:CbI w p s pre W)(x:Ln)(n:Int)(m:Nat)(hm:Xi5 s.size (Xot (lnL pre)) (bs x.1.2)=m)(h0:m≠0):CbX w p s .ret (pre++[x]) ((W.setCell ⟨p+1,0,none⟩ (.int .i64 n)).setCell ⟨p+2,0,none⟩ (.int .i64 (m:Nat))):=by
 have e:Xce s.size 0 (lnL (pre++[x]))=m:=by rw[Xjh,Xki _ _ _ h.2.2.2.2.1.o,hm]
 refine⟨⟨n,?_⟩,?_,Hd ⟨rfl,by rw[e];exact h0⟩,?_⟩;·exact Boxed.other (Xez h.2.1 0 _) (by omega) _
 ·rw[e];exact Xez (Boxed.other h.2.2.1 (by omega) _) 0 _
 exact(h.2.2.2.2.2.setCell (p:=⟨p+1,0,none⟩) (by show p≤p+1;omega) _).setCell (p:=⟨p+2,0,none⟩) (by show p≤p+2;omega) _
theorem Xkp (B:Nat)(W:World)(p:Nat)(u v:Value):KeepsFrom B W ((W.setCell ⟨p+1,0,none⟩ u).setCell ⟨p+2,0,none⟩ v):=((KeepsOthers.setCell _ _ _).trans (KeepsOthers.setCell _ _ _)).from B
def Yng (l:List Nat)(w:World)(e:Ending)(w':World):Prop:=∃n:Int,e=.returned (.tuple #[.int .i64 n,.int .i64 (Xfy l:Nat)])∧Bw w w'
theorem Xs0 (s:ByteArray)(w:World)(hs:s.size≤1000000)(hE:Env w):Calls prog 50 #[.string s] w (Yng (bs s) w):=by
 have HS:=Hd hs;have HE:=Hd hE;have h9:=hE.size;have BF:Hid (Xfy (bs s)=Xce s.size 0 (lns (bs s))):=Hd (by rw[←Xac,Yjb]);clear hs hE;refine(callsIn_wide (n:=5)).1 ?_;refine callsIn_of_wp_marks func50 rfl trivial ?_ rfl;simp only[ntmps50,List.size_toArray,List.length_cons,List.length_nil,Nat.reduceAdd,Nat.reduceSub,Array.replicate_succ,Array.replicate_zero,List.push_toArray,List.append_toArray,List.nil_append,List.cons_append];gi_wp2_with fail;refine⟨trivial,?_⟩;gi_at_call 94;refine(Ye5 Fence.wide _ trivial rfl _ _).mono ?_;rintro e w' ⟨rfl,rfl⟩;gi_wp2;obtain⟨p,z⟩:=xq w.heap.size;obtain⟨u,g⟩:∃u,(((((w.alloc (.cells #[.string s] 9)).alloc (.cells #[.int .i64 0] 3)).alloc (.cells #[.int .i64 0] 32)).alloc (.cells #[.int .i64 0] 3)).alloc (.cells #[.string s] 9))=u:=⟨_,rfl⟩
 have z0:u.heap.size=p+5:=by rw[←g,z];simp
 have N:Bw w u:=by rw[←g];exact(((((zR _ w).alloc (zL _) _).alloc (by simp) _).alloc (by simp;omega) _).alloc (by simp;omega) _).alloc (by simp;omega) _
 have Y:CbI w p s [] u:=by
  refine⟨?_,?_,?_,?_,Hd rfl,by rw[z];exact N⟩<;>rw[←g,z];·exact((((Boxed.new w 9 (.string s)).alloc _).alloc _).alloc _).alloc _
  ·have:=((((Boxed.new (w.alloc (.cells #[.string s] 9)) 3 (.int .i64 0)).alloc (.cells #[.int .i64 0] 32)).alloc (.cells #[.int .i64 0] 3)).alloc (.cells #[.string s] 9))
   simpa using this
  ·have:=(((Boxed.new ((w.alloc (.cells #[.string s] 9)).alloc (.cells #[.int .i64 0] 3)) 32 (.int .i64 0)).alloc (.cells #[.int .i64 0] 3)).alloc (.cells #[.string s] 9))
   simpa using this
  have:=((Boxed.new (((w.alloc (.cells #[.string s] 9)).alloc (.cells #[.int .i64 0] 3)).alloc (.cells #[.int .i64 0] 32)) 3 (.int .i64 0)).alloc (.cells #[.string s] 9))
  simpa [Xot,lnL,Nat.add_assoc] using this
 have T:u.cell? ⟨p+4,0,none⟩=some (.string s):=by have:=(Boxed.new ((((w.alloc (.cells #[.string s] 9)).alloc (.cells #[.int .i64 0] 3)).alloc (.cells #[.int .i64 0] 32)).alloc (.cells #[.int .i64 0] 3)) 9 (.string s)).cell;rw[←g,z];simpa [Nat.add_assoc] using this
 have E0:=Hd (HE.o.on N);rw[g,←z];simp only[Nat.add_assoc,Nat.reduceAdd];have i:=Hd z;clear g z N;refine wpIn_rangeFunc_ownG (F:=Fence.wide) (n:=5) rfl (by omega) (gf:=143) (lb:=#[.pointer (some ⟨p+4,0,none⟩)]) rfl trivial (enters_of func143 (by kernel_rfl) rfl)
  (Xr3 4 (by omega) (p+4) s HS.o u E0.o (by omega) T) (fun h k=>h.trans k) ?keep (zR _ _) (fun _=>rfl)
  (CbI w p s) (CbX w p s) (CbI.own w p s (by rw[i.o];exact zL _) _ (by omega)) (fun c=>CbX.own w p s c (by rw[i.o];exact zL _) _ (by omega)) Y
  (fun x=>{tmps:=#[.string s,.pointer (some ⟨p,0,none⟩),.pointer (some ⟨p+1,0,none⟩),.pointer (some ⟨p+2,0,none⟩),.pointer (some ⟨p+3,0,none⟩),undef,.string x.1.2,undef,undef,.string s,.func (.func 143) #[] #[.pointer (some ⟨p+4,0,none⟩)],.int .i64 (x.1.1:Int),.string x.1.2,undef,undef,undef,undef,undef,undef,undef,undef,undef,undef,undef,undef,undef,undef,undef,undef,undef,undef,undef,undef,undef,undef,undef,undef],defers:=[]})
  ?assign ?body ?done ?stop
 case keep=>intro W l o o' hl V ho _;exact⟨rfl,rfl,rfl,by simp[World.putObj],fun k hk=>(grownBy_putObj' W l o').block k (by have:=zY V;have:=i.o;omega) (fun e=>by cases e;have:=i.o;omega)⟩
 case assign=>rintro l x W K v;unfold lnV;gi_wp2;exact v
 case body=>
  rintro l d x W b aB;have aD:p+3<W.heap.size:=b.2.2.2.1.lt;have R:9≤p:=by rw[i.o];exact h9
  have I:=Yl1 d;have X:=x.2;have aC:=HS.o;have J:Xot (lnL d)≤1000001*1000001:=Nat.le_trans I (Nat.mul_le_mul_right _ (by omega));have bp:=b.1.cell;have b1:=b.2.1.cell;have f1:=b.2.1.frozen;have b2:=b.2.2.1.cell;have f2:=b.2.2.1.frozen;have O:=b.2.2.2.1.cell;have f3:=b.2.2.2.1.frozen;have y:=Hd b;have EW:=Hd (HE.o.below b.2.2.2.2.2 R);obtain⟨⟨xi,t⟩,U⟩:=x;simp only at X U⊢;obtain⟨a,S⟩:=xq (Xot (lnL d));rw[←S] at O J;have A:=Hd S;have BL:=Xac t;have aA:=Hd BL;clear b I S BL;by_cases B:a+t.size=s.size;·have q1:(((a:Int)+(t.size:Int))==(s.size:Int))=true:=Xa8 (by omega);have C:=Hd B;clear B;gi_wp2;exact⟨Xkp _ _ _ _ _,y.o.stop _ _ 4 (by rw[←A.o];unfold Xi5;rw[qP (by rw[Xac];exact C.o)]) (by decide)⟩
  have q1:(((a:Int)+(t.size:Int))==(s.size:Int))=false:=Xar (by omega);have C:=Hd B;clear B;by_cases E:998<t.size;·gi_wp2;exact⟨Xkp _ _ _ _ _,y.o.stop _ _ 5 (by rw[←A.o];unfold Xi5;rw[qN (by rw[Xac];exact C.o),qP (by rw[Xac];exact E)]) (by decide)⟩
  have Z:=Hd (Ygj t W (by unfold maxLen;omega));gi_wp2_with fail;refine⟨trivial,?_⟩;gi_at_call 95;refine(CallsIn.inRound l (callsIn_wide.2 Z.o)).mono ?_;rintro e w2 ⟨n,rfl,G,H,m⟩;have f:=Hd (y.o.on m);have KF:=Hd (Xr8 m u.heap.size);have B9:Hid (Below 9 W w2):=Hd (m.mono (by omega));have bp:=f.o.1.cell;have b1:=f.o.2.1.cell;have f1:=f.o.2.1.frozen;have b2:=f.o.2.2.1.cell;have f2:=f.o.2.2.1.frozen;have O:=f.o.2.2.2.1.cell;have f3:=f.o.2.2.2.1.frozen;rw[←A.o] at O;clear m Z;cases hg:Xhz true (bs t);·have hn:=H hg;have M:=Hd hg;clear G H hg;gi_wp2;exact⟨KF.o.trans (Xkp _ _ _ _ _),f.o.stop _ _ 6 (by rw[←A.o];unfold Xi5;rw[qN (by rw[Xac];exact C.o),qN (by rw[Xac];exact E),qP M.o]) (by decide)⟩
  have hn:=G hg;have M:=Hd hg;clear G H hg;gi_wp2;have e0:Xi5 s.size (Xot (lnL d)) (bs t)=0:=by rw[←A.o];unfold Xi5;rw[qN (by rw[Xac];exact C.o),qN (by rw[Xac];exact E),qN (by rw[M.o];decide)]
  refine⟨KF.o.trans ((KeepsOthers.setCell _ _ _).from _),B9.o.trans ((zR _ _).setCell (p:=⟨p+3,0,none⟩) (by show 9≤p+3;omega) _),Boxed.other f.o.1 (by omega) _,Boxed.other f.o.2.1 (by omega) _,Boxed.other f.o.2.2.1 (by omega) _,?_,Hd (by rw[Xjh,Xki _ _ _ f.o.2.2.2.2.1.o];exact e0),f.o.2.2.2.2.2.setCell (p:=⟨p+3,0,none⟩) (by show p≤p+3;omega) _⟩;have:=Xez f.o.2.2.2.1 0 (.int .i64 ((a:Int)+(t.size:Int)+1));rw[Xjh,Ycn,←A.o,Xac];exact this
 case done=>
  rintro D ys W hD L b v;have b1:=b.2.1.cell;have f1:=b.2.1.frozen;have b2:=b.2.2.1.cell;have f2:=b.2.2.1.frozen;have hz:Xce s.size 0 (lns (bs s))=0:=by rw[←L];exact b.2.2.2.2.1.o
  have HZ:=Hd hz;have y:=Hd b;clear b hz L;gi_wp2;have k1:=Xez y.o.2.1 0 (.int .i64 0);have k2:Boxed ((W.setCell ⟨p+1,0,none⟩ (.int .i64 0)).setCell ⟨p+2,0,none⟩ (.int .i64 0)) (p+1) 3 (.int .i64 0):=Boxed.other k1 (by omega) _;have k3:Boxed ((W.setCell ⟨p+1,0,none⟩ (.int .i64 0)).setCell ⟨p+2,0,none⟩ (.int .i64 0)) (p+2) 32 (.int .i64 0):=Xez (Boxed.other y.o.2.2.1 (by omega) _) 0 _;have j:=((KeepsOthers.setCell W ⟨p+1,0,none⟩ (.int .i64 0)).trans (KeepsOthers.setCell _ ⟨p+2,0,none⟩ (.int .i64 0))).same D _ v rfl;refine⟨by simp,.inl ⟨_,_,rfl,run_takeDeferred j,?_⟩⟩;have P:=cell_kept k2.cell (grownBy_putObj' _ D (.deferred none)) (fun r e=>by cases e;exact⟨_,j,rfl⟩);have Q:=cell_kept k3.cell (grownBy_putObj' _ D (.deferred none)) (fun r e=>by cases e;exact⟨_,j,rfl⟩);refine⟨.tuple #[.int .i64 0,.int .i64 0],?_,0,by rw[BF.o,HZ.o];rfl,(((y.o.2.2.2.2.2.mono (Nat.le_of_eq i.o.symm)).setCell (p:=⟨p+1,0,none⟩) (by show w.heap.size≤p+1;have:=i.o;omega) _).setCell (p:=⟨p+2,0,none⟩) (by show w.heap.size≤p+2;have:=i.o;omega) _).trans (belowK_b (w:=w) (zL _) _ D _ _ (by have:=i.o;omega) j rfl rfl)⟩;simp[results,Tryz.f50,go_sem,P,Q]
 case stop=>rintro D c d W hD ⟨q,hq⟩ b v;obtain⟨⟨n,G⟩,H,h3,h4⟩:=b;obtain⟨rfl,h5⟩:=h3.o;have B:=G.cell;have E:=H.cell;have GF:Hid (Xfy (bs s)=Xce s.size 0 (lnL d)):=Hd (by rw[BF.o,←hq,Xic,qP h5]);clear hq h5 h3;gi_wp2;refine⟨by simp,.inl ⟨_,_,rfl,run_takeDeferred v,?_⟩⟩;have P:=cell_kept B (grownBy_putObj' _ D (.deferred none)) (fun r e=>by cases e;exact⟨_,v,rfl⟩);have Q:=cell_kept E (grownBy_putObj' _ D (.deferred none)) (fun r e=>by cases e;exact⟨_,v,rfl⟩);refine⟨.tuple #[.int .i64 n,.int .i64 (Xce s.size 0 (lnL d):Nat)],?_,n,by rw[GF.o],(h4.mono (Nat.le_of_eq i.o.symm)).trans (belowK_b (w:=w) (zL _) _ D _ _ (by have:=i.o;omega) v rfl rfl)⟩;simp[results,Tryz.f50,go_sem,P,Q]
end Go.Proofs.YtjolcnopipbkhaaGreatDoor
