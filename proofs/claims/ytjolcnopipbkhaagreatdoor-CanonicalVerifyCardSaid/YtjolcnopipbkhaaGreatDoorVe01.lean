/- Small helpers on worlds for the walks of this seat: what an owned row and a box of one cell do to each other. -/
import Derived.WalkKit
import Derived.WalkSpells
import Derived.WalkLawsBesides
import Derived.Deep.AppendLies
import Derived.Lib.Hide
import Derived.Maps.Own
import Derived.Test.YtjolcnopipbkhaaGreatDoorProg
import Derived.OrdersHeld
import Derived.Lib.FrozenHead
import Derived.BigQuiet
import Derived.Deep.QuietTactic
import Derived.Deep.RegionLaw
import Derived.Deep.RegionHeld3
import Derived.KernelRfl
import Derived.Deep.WholeRow
import Derived.DeepKeys
import Derived.IntWalk
import Derived.Outline
import Derived.OpenShut
import Derived.StillTailTactics
import Derived.BigRegion
import Derived.Deep.RegionWith
import Derived.Deep.LoopGhost
import Derived.Deep.DeepCutAuto
namespace Go.Proofs.YtjolcnopipbkhaaGreatDoor
open Go.Proofs.Tryz
open Go.RowKit Go.Maps
set_option linter.unusedVariables false
theorem Hd{p:Prop} (h:p):RowKit.Hid p:=h
abbrev Bw (w w':World):Prop:=Below w.heap.size w w'
theorem xq {α:Type}(a:α):∃x,x=a:=⟨a,rfl⟩
theorem bg {a b c:World}(h:Below a.heap.size a b)(k:Below b.heap.size b c):Below a.heap.size a c:=h.trans (k.mono h.size)
theorem zL (n:Nat):n≤n:=Nat.le_refl n
theorem zR (b:Nat)(w:World):Below b w w:=Below.refl b w
theorem bh {a b c:World}(h:Hid (Below a.heap.size a b))(k:Below b.heap.size b c):Hid (Below a.heap.size a c):=bg h k
abbrev zJ (f:FuncId)(xs:Array Value)(w:World)(v:Value):Prop:=Calls prog f xs w fun e w'=>e=.returned v∧Below w.heap.size w w'
theorem _root_.Go.RowKit.Hid.o {p:Prop}(h:Hid p):p:=h
abbrev Rx (f:FuncId)(xs:Array Value)(w:World)(v:Value):Prop:=Calls prog f xs w fun e w'=>e=.returned v∧w=w'
abbrev Ry (f:FuncId)(xs:Array Value)(w:World)(v:Value):Prop:=Calls prog f xs w fun e w'=>e=.returned v∧w'=w
abbrev Ld (T:TypeId)(a:Addr)(w:World)(v:Value):Prop:=(loadVar T a).run prog w=.ok v w
abbrev Sv (T:TypeId)(a:Addr)(v:Value)(w w':World):Prop:=(storeVar T a v).run prog w=.ok () w'
abbrev zY:=@lt_of_block
abbrev zP:=@bodyPost_ret
abbrev zN:=@heap_alloc_new
abbrev zG:=@List.getElem_mem
theorem qN {c:Prop}{i:Decidable c}(h:¬c){α:Sort _}{t e:α}:ite c t e=e:=if_neg h
theorem qP {c:Prop}{i:Decidable c}(h:c){α:Sort _}{t e:α}:ite c t e=t:=if_pos h
theorem zT {p:Prop}[i:Decidable p](h:p):decide p=true:=decide_eq_true h
theorem zW {p:Prop}[i:Decidable p](h:¬p):decide p=false:=decide_eq_false h
set_option maxRecDepth 100000
set_option maxHeartbeats 100000000
def U (n:Nat):Value:=.int .u8 n
theorem Xd6 {w:World}{base e size:Nat}{v:Value}{n:Nat}{xs:List Value}{b t:Nat}{cs:Array Value}{fz:Nat×Nat} (hown:w.ownsRow base e size v n xs) (hT:w.heap[b]?=some (.cells cs t fz)) (hne:t≠e):v.ownBlock≠some b:=by
 intro h;rcases hown.2 with⟨rfl,_⟩|⟨g,cap,cur,rfl,_,hg,_⟩;·simp[Value.ownBlock] at h
 simp[Value.ownBlock] at h;subst h;rw[hg] at hT;simp at hT;exact hne hT.2.1.symm
theorem Xdh {w w':World}{row:Option Nat}{b:Nat}{o:Obj}(hg:w.grownBy w' row)(hb:w.heap[b]?=some o)(hne:row≠some b):w'.heap[b]?=some o:=
 (hg.block b (zY hb) (fun h=>hne h.symm)).trans hb
def KM (w w':World):Prop:=∀(k:Nat) (es:Array MapEntry) (c:Nat),w.heap[k]?=some (.map es c)→w'.heap[k]?=some (.map es c)
theorem KM.trans {a b c:World}(h:KM a b)(h':KM b c):KM a c:=fun k es cl hk=>h' k es cl (h k es cl hk)
theorem KM.drew {a b:World}(h:KM a b):KM a b.drew:=h
theorem KM.setCell {w:World}{b t:Nat}{cs:Array Value}{fz:Nat×Nat}(hb:w.heap[b]?=some (.cells cs t fz))(o:Nat)(u:Value):KM w (w.setCell ⟨b,o,none⟩ u):=by
 intro k f c a;have d:k≠b:=fun e=>by rw[e,hb] at a;simp at a
 rw[Below.heap_setCell _ _ _ _ d];exact a
theorem KM.owns {H:Type}{w w':World}(h:KM w w'){P:Program}{k:TypeId}{R:Value→Option (DataW H×List MemPlace)}{b n:Nat}{D:DataW H}(ho:w.ownsMap P k R b n D):w'.ownsMap P k R b n D:=by obtain⟨a,c,d,r⟩:=ho;exact⟨a,c,h b a c d,r⟩
structure Frame1 (B Bt:Nat) (v:Value) (w w':World):Prop where
 below:Below B w w'
 other:∀k,k<w.heap.size→k≠Bt→v.ownBlock≠some k→w'.heap[k]?=w.heap[k]?
theorem Frame1.km {B Bt t e base size n:Nat}{v:Value}{xs:List Value}{w w':World}{cs:Array Value}{fz:Nat×Nat}(h:Frame1 B Bt v w w')(hT:w.heap[Bt]?=some (.cells cs t fz))(hown:w.ownsRow base e size v n xs):KM w w':=by
 intro k d c a;refine(h.other k (zY a) (fun e=>by rw[e,hT] at a;simp at a) ?_).trans a;intro b;rcases hown.2 with⟨rfl,_⟩|⟨g,cap,cur,rfl,_,hg,_⟩;·simp[Value.ownBlock] at b
 simp[Value.ownBlock] at b;subst b;rw[hg] at a;simp at a
theorem Xad {w:World}{o:Obj}{b:Nat}{x:Obj}(h:w.heap[b]?=some x):(w.alloc o).heap[b]?=some x:=
 (Below.heap_alloc w o b (zY h)).trans h
theorem Xlf {w wA w1:World}{base Bt e t:Nat}{v:Value}{xs:List Value}{ys:List Value}{gg cap n m:Nat} (hown1:w1.ownsRow base e 1 (.slice (some ⟨gg,0,none⟩) (n+m) cap) (n+m) (xs++ys)) (hgrow:wA.grownBy w1 v.ownBlock) (hA:Bw w wA) (hT1:w1.heap[Bt]?=some (.cells #[v] t (0,0))) (hte:t≠e) (hBt:base≤Bt) (hbase:base≤w.heap.size) (hv:w.ownsRow base e 1 v n xs):(∃v',(w1.setCell ⟨Bt,0,none⟩ (.slice (some ⟨gg,0,none⟩) (n+m) cap)).heap[Bt]?=some (.cells #[v'] t (0,0))∧
     (w1.setCell ⟨Bt,0,none⟩ (.slice (some ⟨gg,0,none⟩) (n+m) cap)).ownsRow base e 1 v' (n+m) (xs++ys))∧
    Frame1 base Bt v w (w1.setCell ⟨Bt,0,none⟩ (.slice (some ⟨gg,0,none⟩) (n+m) cap)):=by
 refine⟨⟨_,one_setCell hT1,ownsRow_setCell_other hown1 (Xd6 hown1 hT1 hte) _⟩,?_,?_⟩;·refine Below.setCell ?_ hBt _;refine Below.grown (hA.mono hbase) hgrow (Nat.le_trans hbase hA.size) ?_;intro k a;exact(hv.lt k a).1
 intro k a b c;rw[Below.heap_setCell _ _ _ _ b,hgrow.block k (Nat.lt_of_lt_of_le a hA.size) (fun h=>c h.symm),hA.block k a]
set_option maxRecDepth 100000
set_option maxHeartbeats 100000000
theorem Xae {P:Program}{md:Region.Mode}{ops:Array Oper}{Q:Exit→Act→World→Prop}{S:World→Prop}{fuel:Nat}{listed:Array Bool}{a:Act}{w:World}(i:Nat)(v:Value){oi:Oper}(hi:ops[i]?=some oi) (he:∀w',S w'→(execOp a.eval oi).run P w'=.ok (.value v) w') (hS:S w) (h:wpAnyH P md ops Q S fuel (listed.setIfInBounds i true) (a.put oi.dst v) w) (hw:Region.wanted oi (yielded ops a.tmps)=true:=by kernel_rfl) (hs:Region.noSelect ops=true:=by kernel_rfl) (hf:Region.free md ops listed i=true:=by kernel_rfl) (hr:(Region.ready md ops listed).contains i=true:=by kernel_rfl) (hQ:∀c a w,Q (.panic c) (a.put oi.dst v) w→Q (.panic c) a w:=by exact fun _ _ _ h=>h):wpAnyH P md ops Q S (fuel+1) listed a w:=
 wpAnyH_take hi hs hf hr hQ (Or.inl ⟨hw,he⟩) hS h
theorem Xb0 {P:Program}{md:Region.Mode}{ops:Array Oper}{Q:Exit→Act→World→Prop}{S:World→Prop}{fuel:Nat}{listed:Array Bool}{a:Act}{w:World}(i:Nat){oi:Oper}(hi:ops[i]?=some oi) (hS:S w) (h:wpAnyH P md ops Q S fuel (listed.setIfInBounds i true) (a.put oi.dst undef) w) (hw:Region.wanted oi (yielded ops a.tmps)=false:=by kernel_rfl) (hs:Region.noSelect ops=true:=by kernel_rfl) (hf:Region.free md ops listed i=true:=by kernel_rfl) (hr:(Region.ready md ops listed).contains i=true:=by kernel_rfl) (hQ:∀c a w,Q (.panic c) (a.put oi.dst undef) w→Q (.panic c) a w:=by exact fun _ _ _ h=>h):wpAnyH P md ops Q S (fuel+1) listed a w:=
 wpAnyH_take hi hs hf hr hQ (Or.inr ⟨hw,rfl⟩) hS h
def Xb6 (f:Nat→Nat)(tt:Nat):Nat→Nat→Nat→List Nat→Nat×Nat×List Nat
 |0,b,c,xs=>(b,c,xs)
 |k+1,b,c,xs=>if c<tt then(b,c,xs) else Xb6 f tt k (b%2^(c-tt)) (c-tt) (xs++[f (b/2^(c-tt))])
theorem Xew (f:Nat→Nat)(tt k b c:Nat)(xs:List Nat)(h:¬c<tt):Xb6 f tt (k+1) b c xs=Xb6 f tt k (b%2^(c-tt)) (c-tt) (xs++[f (b/2^(c-tt))]):=by rw[Xb6,qN h]
theorem Xql (f:Nat→Nat)(tt:Nat)(ht:1≤tt):∀(k b c:Nat) (xs:List Nat),b<2^c→c≤k→ (Xb6 f tt k b c xs).2.1<tt∧(Xb6 f tt k b c xs).1<2^(Xb6 f tt k b c xs).2.1∧(Xb6 f tt k b c xs).2.2.length*tt+(Xb6 f tt k b c xs).2.1=xs.length*tt+c:=by
 intro k
 induction k with
 |zero=>
  intro b c xs a d;obtain rfl:c=0:=by omega
  simp[Xb6];exact⟨by omega,by simpa using a⟩
 |succ k ih=>
  intro b c xs a d;by_cases h:c<tt;·rw[Xb6,qP h];exact⟨h,a,rfl⟩
  rw[Xew _ _ _ _ _ _ h];have:=ih (b%2^(c-tt)) (c-tt) (xs++[f (b/2^(c-tt))]) (Nat.mod_lt _ (Nat.pow_pos (by omega))) (by omega);refine⟨this.1,this.2.1,?_⟩;rw[this.2.2,List.length_append,Nat.add_mul];simp;omega
def alph:List Nat:=[65,66,67,68,69,70,71,72,73,74,75,76,77,78,79,80,81,82,83,84,85,86,87,88,89,90,97,98,99,100,101,102,103,104,105,106,107,108,109,110,111,112,113,114,115,116,117,118,119,120,121,122,48,49,50,51,52,53,54,55,56,57,43,47]
def al (g:Nat):Nat:=alph.getD g 0
theorem Ygp (g:Nat):al g<123:=by
 by_cases h:g<64;·exact(by decide:∀g,g<64→al g<123) g h
 unfold al;rw[List.getD_eq_getElem?_getD,List.getElem?_eq_none (by simp[alph];omega)];simp
def Xbg (s:Nat×Nat×List Nat)(g:Nat):Nat×Nat×List Nat:=Xb6 al 6 16 (s.1*2^8+g) (s.2.1+8) s.2.2
def Xgm (l:List Nat):Nat×Nat×List Nat:=l.foldl Xbg (0,0,[])
theorem Xms (l:List Nat)(g:Nat):Xgm (l++[g])=Xbg (Xgm l) g:=by simp[Xgm]
theorem Xjk {bits count fr g:Nat}(hbits:bits<2^count)(hg:g<2^fr):bits*2^fr+g<2^(count+fr):=by rw[Nat.pow_add];have c:(bits+1)*2^fr≤2^count*2^fr:=Nat.mul_le_mul_right _ (by omega);rw[Nat.add_mul] at c;generalize 2^count*2^fr=a at*;generalize bits*2^fr=b at*;omega
theorem Xsn (s:Nat×Nat×List Nat)(g:Nat)(hg:g<256)(h1:s.2.1<6)(h2:s.1<2^s.2.1):(Xbg s g).2.1<6∧(Xbg s g).1<2^(Xbg s g).2.1∧(Xbg s g).2.2.length*6+(Xbg s g).2.1=s.2.2.length*6+s.2.1+8:=by have:=Xql al 6 (by omega) 16 (s.1*2^8+g) (s.2.1+8) s.2.2 (Xjk h2 (by omega)) (by omega);exact⟨this.1,this.2.1,by rw[Nat.add_assoc];exact this.2.2⟩
theorem Xhn (l:List Nat)(hl:∀x∈l,x<256):(Xgm l).2.1<6∧(Xgm l).1<2^(Xgm l).2.1∧(Xgm l).2.2.length*6+(Xgm l).2.1=l.length*8:=by
 have key:∀(r:List Nat) (s:Nat×Nat×List Nat),(∀x∈r,x<256)→s.2.1<6→s.1<2^s.2.1→
     (r.foldl Xbg s).2.1<6∧(r.foldl Xbg s).1<2^(r.foldl Xbg s).2.1∧(r.foldl Xbg s).2.2.length*6+(r.foldl Xbg s).2.1=s.2.2.length*6+s.2.1+r.length*8:=by
  intro r
  induction r with
  |nil=>intro s _ c d;exact⟨c,d,by simp⟩
  |cons x r ih=>intro s e c d;have a:=Xsn s x (e x (by simp)) c d;have b:=ih (Xbg s x) (fun y hy=>e y (by simp[hy])) a.1 a.2.1;rw[List.foldl_cons];refine⟨b.1,b.2.1,?_⟩;rw[b.2.2,a.2.2];simp;omega
 have:=key l (0,0,[]) hl (by simp) (by simp);simpa [Xgm] using this
def Xbp (s:Nat×Nat×List Nat):List Nat:=if 0<s.2.1 then s.2.2++[al (s.1*2^(6-s.2.1))] else s.2.2
def Xq4 (xs:List Nat):List Nat:=xs++List.replicate ((4-xs.length%4)%4) 61
def Xi8 (l:List Nat):List Nat:=Xq4 (Xbp (Xgm l))
theorem Xpy (xs:List Nat)(h:xs.length%4=0):Xq4 xs=xs:=by simp[Xq4,h]
theorem Xpx (xs:List Nat)(h:¬xs.length%4=0):Xq4 (xs++[61])=Xq4 xs:=by
 unfold Xq4;rw[List.append_assoc,List.length_append];congr 1;have:(4-xs.length%4)%4=(4-(xs.length+1)%4)%4+1:=by omega
 simp only[List.length_singleton];rw[this,List.replicate_succ];rfl
theorem Yek (xs:List Nat):(Xq4 xs).length=(xs.length+3)/4*4:=by simp[Xq4];omega
theorem Xk3 (b c:Nat)(xs:List Nat)(n:Nat)(h:xs.length*6+c=n*8):(Xbp (b,c,xs)).length≤2*n+1:=by
 unfold Xbp;by_cases hc:0<(b,c,xs).2.1;·rw[qP hc];simp;omega
 rw[qN hc];simp;omega
theorem Ybq {l:List Nat}{b c:Nat}{xs:List Nat}(h:Xgm l=(b,c,xs)):Xq4 (Xbp (b,c,xs))=Xi8 l:=by rw[Xi8,h]
def Xax (l:List Nat):ByteArray:=⟨(l.map UInt8.ofNat).toArray⟩
theorem Xat (l:List Nat):(Xax l).size=l.length:=by simp[Xax,ByteArray.size]
def bs (s:ByteArray):List Nat:=s.data.toList.map UInt8.toNat
theorem Xac (s:ByteArray):(bs s).length=s.size:=by unfold bs;rw[List.length_map];rfl
theorem Ymw (s:ByteArray)(i:Nat)(h:i<s.size):(bs s)[i]'(by rw[Xac];exact h)=s[i].toNat:=by unfold bs;rw[List.getElem_map];rfl
theorem Ykb (s:ByteArray)(i:Nat)(h:i<s.size):(bs s).getD i 0=s[i].toNat:=by rw[List.getD_eq_getElem?_getD,List.getElem?_eq_getElem (by rw[Xac];exact h),Option.getD_some,Ymw s i h]
theorem Xhs (s:ByteArray):∀x∈bs s,x<256:=by intro x a;obtain⟨u,_,rfl⟩:=List.mem_map.1 a;exact u.toNat_lt
theorem Xe3 (s:ByteArray):Xax (bs s)=s:=by
 unfold Xax bs;rw[List.map_map];have:(UInt8.ofNat∘UInt8.toNat)=id:=by funext u;exact UInt8.ofNat_toNat
 rw[this,List.map_id]
theorem Xd2 (l:List Nat)(h:∀x∈l,x<256):bs (Xax l)=l:=by
 unfold Xax bs;simp only[List.map_map];have:l.map (UInt8.toNat∘UInt8.ofNat)=l.map id:=by apply List.map_congr_left;intro x a;exact Nat.mod_eq_of_lt (h x a)
 rw[this,List.map_id]
def vOf (c:Nat):Option Nat:=(List.range 64).find? (fun i=>al i==c)
theorem Xyb {c v:Nat}(h:vOf c=some v):v<64:=by have:=List.mem_of_find?_eq_some h;simpa using this
theorem Yk6 {c v:Nat}(h:vOf c=some v):al v=c:=by have:=List.find?_some h;simpa using this
def Xbq (l:List Nat):Nat:=
 if l.length=0∨l.length%4≠0∨l.getD (l.length-1) 0≠61 then l.length else if l.getD (l.length-2) 0=61 then l.length-2 else l.length-1
theorem Xjo (l:List Nat):Xbq l≤l.length:=by
 unfold Xbq;split;·exact zL _
 split<;>omega
def Xbb (s:Nat×Nat×List Nat)(g:Nat):Nat×Nat×List Nat:=Xb6 id 8 16 (s.1*2^6+g) (s.2.1+6) s.2.2
def Xei (l:List Nat):Nat×Nat×List Nat:=l.foldl Xbb (0,0,[])
theorem Xmt (l:List Nat)(g:Nat):Xei (l++[g])=Xbb (Xei l) g:=by simp[Xei]
theorem Xsr (s:Nat×Nat×List Nat)(g:Nat)(hg:g<64)(h1:s.2.1<8)(h2:s.1<2^s.2.1):(Xbb s g).2.1<8∧(Xbb s g).1<2^(Xbb s g).2.1∧(Xbb s g).2.2.length*8+(Xbb s g).2.1=s.2.2.length*8+s.2.1+6:=by have:=Xql id 8 (by omega) 16 (s.1*2^6+g) (s.2.1+6) s.2.2 (Xjk h2 (by omega)) (by omega);exact⟨this.1,this.2.1,by rw[Nat.add_assoc];exact this.2.2⟩
theorem Xk6 (l:List Nat)(hl:∀x∈l,x<64):(Xei l).2.1<8∧(Xei l).1<2^(Xei l).2.1∧(Xei l).2.2.length*8+(Xei l).2.1=l.length*6:=by
 have key:∀(r:List Nat) (s:Nat×Nat×List Nat),(∀x∈r,x<64)→s.2.1<8→s.1<2^s.2.1→
     (r.foldl Xbb s).2.1<8∧(r.foldl Xbb s).1<2^(r.foldl Xbb s).2.1∧(r.foldl Xbb s).2.2.length*8+(r.foldl Xbb s).2.1=s.2.2.length*8+s.2.1+r.length*6:=by
  intro r
  induction r with
  |nil=>intro s _ c d;exact⟨c,d,by simp⟩
  |cons x r ih=>intro s e c d;have a:=Xsr s x (e x (by simp)) c d;have b:=ih (Xbb s x) (fun y hy=>e y (by simp[hy])) a.1 a.2.1;rw[List.foldl_cons];refine⟨b.1,b.2.1,?_⟩;rw[b.2.2,a.2.2];simp;omega
 have:=key l (0,0,[]) hl (by simp) (by simp);simpa [Xei] using this
def Xjb (l:List Nat):Option (List Nat):=l.mapM vOf
theorem Xtg:Xjb []=some []:=rfl
theorem Xoy {l vs:List Nat}{c v:Nat}(h:Xjb l=some vs)(hc:vOf c=some v):Xjb (l++[c])=some (vs++[v]):=by simp[Xjb,List.mapM_append] at*;simp[h,hc]
theorem Xq8:∀{l vs:List Nat},Xjb l=some vs→(∀x∈vs,x<64)∧vs.length=l.length:=by
 intro l
 induction l with
 |nil=>intro vs h;simp[Xjb] at h;subst h;simp
 |cons c l ih=>intro vs h;simp only[Xjb,List.mapM_cons,Option.bind_eq_bind,Option.bind_eq_some_iff,Option.pure_def,Option.some.injEq] at h;obtain⟨v,hv,r,b,rfl⟩:=h;have:=ih b;exact⟨by intro x a;rcases List.mem_cons.1 a with rfl|a;exact Xyb hv;exact this.1 x a,by simp[this.2]⟩
def Ykj (l:List Nat)(n:Nat):Option Nat:=(List.range n).find? (fun i=>(vOf (l.getD i 0)).isNone)
def Xcu (l:List Nat):List Nat×Nat×Nat:=
 if 174764<l.length then([],0,5) else
 match Xjb (l.take (Xbq l)) with
 |none=>([],(Ykj l (Xbq l)).getD 0,6)
 |some vs=>if l.length%4≠0 then([],l.length,4) else if(Xei vs).1≠0 then([],Xbq l-1,3) else((Xei vs).2.2,0,0)
theorem Xi2 {l:List Nat}{j n:Nat}(h:Xjb (l.take (j+1))=none)(hn:j<n):Xjb (l.take n)=none:=by
 have e:l.take n=l.take (j+1)++(l.take n).drop (j+1):=by have a:=(List.take_append_drop (j+1) (l.take n)).symm;rw[List.take_take,Nat.min_eq_left (by omega)] at a;exact a
 rw[e];simp only[Xjb,List.mapM_append] at*;simp[h]
theorem Ydd {l vs:List Nat}{i:Nat}(h:Xjb l=some vs)(hi:i<l.length):(vOf l[i]).isSome=true:=by
 induction l generalizing vs i with
 |nil=>simp at hi
 |cons c l ih=>
  simp only[Xjb,List.mapM_cons,Option.bind_eq_bind,Option.bind_eq_some_iff,Option.pure_def,Option.some.injEq] at h;obtain⟨v,hv,r,a,rfl⟩:=h
  cases i with
  |zero=>simp[hv]
  |succ i=>simpa using ih a (by simpa using hi)
theorem Xu7 {l vs:List Nat}{j:Nat}(h:Xjb (l.take j)=some vs)(hj:j<Xbq l)(hjl:j<l.length)(hc:vOf l[j]=none)(hlen:l.length≤174764):Xcu l=([],j,6):=by
 have b:Xjb (l.take (j+1))=none:=by rw[List.take_succ_eq_append_getElem hjl];simp only[Xjb,List.mapM_append] at*;simp[h,hc]
 have c:Ykj l (Xbq l)=some j:=by
  unfold Ykj;rw[List.find?_eq_some_iff_getElem];refine⟨?_,j,by simpa using hj,by simp,?_⟩;·rw[List.getD_eq_getElem?_getD,List.getElem?_eq_getElem hjl];simp[hc]
  intro i hi;have a:i<(l.take j).length:=by simp;omega
  have:=Ydd h a;simp only[List.getElem_range];rw[List.getElem_take] at this;rw[List.getD_eq_getElem?_getD,List.getElem?_eq_getElem (by omega)];simp only[Option.getD_some];cases hv:vOf l[i];·rw[hv] at this;simp at this
  simp
 unfold Xcu;rw[qN (by omega),Xi2 b hj,c];rfl
theorem Xk7 {l vs:List Nat}(h:Xjb (l.take (Xbq l))=some vs)(hlen:l.length≤174764):Xcu l=if l.length%4≠0 then([],l.length,4) else if(Xei vs).1≠0 then([],Xbq l-1,3) else((Xei vs).2.2,0,0):=by unfold Xcu;rw[qN (by omega),h]
theorem Xrd (s:ByteArray):Lib.strCells s=(bs s).map U:=by unfold Lib.strCells bs;rw[List.map_map];rfl
theorem Yl9:(prog.info? 5).map (fun i=>(i.zero,i.size,i.bytes))=some (some (.int .u8 0),1,1):=by kernel_rfl
theorem Xnw {w:World}{base e size:Nat}{v:Value}{n:Nat}{xs:List Value}{b t:Nat}{cs:Array Value}{fz:Nat×Nat} (hown:w.ownsRowF base e size v n xs) (hT:w.heap[b]?=some (.cells cs t fz)) (hne:t≠e):v.ownBlock≠some b:=by
 intro h;rcases hown.2 with⟨rfl,_⟩|⟨g,cap,cur,fz',rfl,_,hg,_⟩;·simp[Value.ownBlock] at h
 simp[Value.ownBlock] at h;subst h;rw[hg] at hT;simp at hT;exact hne hT.2.1.symm
theorem Xwh {w:World}{base e size n:Nat}{v:Value}{xs:List Value}(h:w.ownsRowF base e size v n xs):∃a cap,v=.slice a n cap:=by
 rcases h.2 with⟨rfl,rfl⟩|⟨g,cap,cur,fz,rfl,_⟩;·exact⟨none,0,rfl⟩
 exact⟨some ⟨g,0,none⟩,cap,rfl⟩
def Yon (w:World)(v v':Value):Prop:=v'.ownBlock=v.ownBlock∨v'.ownBlock=some w.heap.size
theorem Xx0 {P:Program}(w:World)(base:Nat)(t u ty e:TypeId)(i:TypeInfo)(ht:P.underlying t=some (.slice e))(hu:P.underlying u=some .string)(hi:P.info? e=some i)(hz:i.zero=some (.int .u8 0)) (hsize:i.size=1) (hby:i.bytes=1) (v:Value) (n:Nat) (xs:List Value) (hown:w.ownsRowF base e 1 v n xs) (s:ByteArray) (hbytes:n+s.size≤140737488355328) (hbase:base≤w.heap.size):∃v' w',(Builtin.append_ #[t,u] ty #[v,.string s]).run P w=.ok v' w'∧w'.ownsRowF base e 1 v' (n+s.size) (xs++Lib.strCells s)∧w.grownBy w' v.ownBlock∧Yon w v v':=by
 obtain⟨v',w',b,c,d,f⟩:=Lib.run_append_own_stringF (P:=P) w base t u ty e i ht hu hi hz hsize hby v n xs hown s (by unfold maxLen;omega) hbytes hbase;refine⟨v',w',b,c,d,?_⟩;rcases hown.2 with⟨rfl,rfl⟩|⟨g,cap,cur,fz,rfl,hbg,hg,hfz,hnc,hcm,hcs,htake⟩
 ·by_cases hm:s.size=0;·left;rw[(f.2 ⟨rfl,hm⟩)]
  right;have a:=run_append_nil_string (P:=P) w t u ty e i (.int .u8 0) ht hu hi hz s (by omega) (by omega) (by rw[hby];omega);rw[b] at a;cases a;rfl
 by_cases hroom:n+s.size≤cap;·left;have a:=Lib.run_append_room_stringF (P:=P) w t u ty e i ht hu hi hsize g n cap cur fz hg (by simpa using hfz) s hroom (by omega);rw[b] at a;cases a;rfl
 right;have a:=Lib.run_append_grow_string (P:=P) w t u ty e i (.int .u8 0) ht hu hi hz ⟨g,0,none⟩ n cap xs (by rw[hsize];exact hown.1) (hown.cells (g:=g) rfl) s (by omega) (by omega) (by rw[hby];exact growslice_fits (by omega) (by omega));rw[b] at a;cases a;rfl
structure Bd (w:World) (B b o:Nat) (T:TypeId) (cs:Array Value) (v:Value) (xs:List Nat):Prop where
 heap:w.heap[b]?=some (.cells cs T (0,0))
 addr:cs[o]?=some (.pointer none)∨cs[o]?=some (.pointer (some ⟨b,o,none⟩))
 buf:cs[o+1]?=some v
 row:w.ownsRowF B 5 1 v xs.length (xs.map U)
theorem Xxq {w:World}{b:Nat}{cs:Array Value}{T:TypeId}{fr:Nat×Nat}(hb:w.heap[b]?=some (.cells cs T fr))(j:Nat):w.cell? ⟨b,j,none⟩=cs[j]?:=by simp[World.cell?,hb]
theorem Xby {w:World}{b:Nat}{cs:Array Value}{T:TypeId}(hb:w.heap[b]?=some (.cells cs T (0,0)))(j:Nat):w.frozen? ⟨b,j,none⟩=false:=by simp[World.frozen?,hb]
theorem Xtx {w:World}{b:Nat}{cs:Array Value}{T:TypeId}{fr:Nat×Nat}(hb:w.heap[b]?=some (.cells cs T fr)):w.shape? b=some (T,cs.size):=by simp[World.shape?,hb]
theorem Xez {w:World}{b:Nat}{cs:Array Value}{T:TypeId}{fr:Nat×Nat}(hb:w.heap[b]?=some (.cells cs T fr))(j:Nat)(u:Value):(w.setCell ⟨b,j,none⟩ u).heap[b]?=some (.cells (cs.setIfInBounds j u) T fr):=by simp[World.setCell,Array.getElem?_modify,hb]
theorem Xet (w:World)(b j k:Nat)(u:Value)(h:k≠b):(w.setCell ⟨b,j,none⟩ u).heap[k]?=w.heap[k]?:=Below.heap_setCell _ _ _ _ h
theorem Xud {w:World}{base e size n:Nat}{v:Value}{xs:List Value}(h:w.ownsRowF base e size v n xs){b:Nat}(hne:v.ownBlock≠some b)(j:Nat)(u:Value):(w.setCell ⟨b,j,none⟩ u).ownsRowF base e size v n xs:=by
 refine⟨h.1,?_⟩;rcases h.2 with h|⟨g,cap,a,c,rfl,d,f,r⟩;·exact .inl h
 exact .inr ⟨g,cap,a,c,rfl,d,(Xet w b j g u (fun e=>hne (by simp[Value.ownBlock,e]))).trans f,r⟩
theorem Xks:∃j,prog.info? 84=some j∧j.size≠0:=by
 have h:(prog.info? 84).map (·.size)=some 2:=by kernel_rfl
 obtain⟨j,a,b⟩:=Option.map_eq_some_iff.1 h;exact⟨j,a,by rw[b];decide⟩
theorem Yeu (w:World)(x:Value):(callFunc 131 #[x]).run prog w=.ok (.value x) w:=by rw[run_callFunc_extern func131 (by kernel_rfl) (by kernel_rfl) (by kernel_rfl) (e:=Extern.AbiNoEscape.same) (by kernel_rfl),Lib.run_noEscape];rfl
theorem Yf4 (w:World)(b o:Nat)(T:TypeId)(cs:Array Value)(hb:w.heap[b]?=some (.cells cs T (0,0)))(ha:cs[o]?=some (.pointer none)) (hl:liesAt prog prog.depth T (cs.size/prog.cellsOf T) o 84 1=true):Calls prog 83 #[.pointer (some ⟨b,o,none⟩)] w fun e w'=>e=.returned (.tuple #[])∧w'=w.setCell ⟨b,o,none⟩ (.pointer (some ⟨b,o,none⟩)):=by have g:=Xxq hb o;rw[ha] at g;have l:=Xby hb o;have i:o<cs.size:=(Array.getElem?_eq_some_iff.1 ha).1;obtain⟨j,c,a⟩:=Xks;have d:=fun w (h:w.shape? b=some (T,cs.size))=>Lib.run_to_unsafe (P:=prog) w (src:=81) (dst:=188) ⟨b,o,none⟩ underlying81 underlying188 c a h i;have f:=fun w (h:w.shape? b=some (T,cs.size))=>Lib.run_from_unsafe (P:=prog) w (src:=188) (dst:=81) ⟨b,o,none⟩ underlying188 underlying81 c h hl;have m:=d w (Xtx hb);have n:=f w (Xtx hb);have k:=Yeu;clear d f hb ha hl a;go_enter func83,ntmps83;go_wp2;go_end0;exact⟨rfl,rfl⟩
theorem Yf3 (w:World)(b o:Nat)(T:TypeId)(cs:Array Value)(hb:w.heap[b]?=some (.cells cs T (0,0)))(ha:cs[o]?=some (.pointer (some ⟨b,o,none⟩))):Rx 83 #[.pointer (some ⟨b,o,none⟩)] w (.tuple #[]):=by have c:=Xxq hb o;rw[ha] at c;obtain⟨j,d,a⟩:=Xks;have e:=fun w=>Lib.run_neq_ptr_same (P:=prog) w (tp:=81) ⟨b,o,none⟩ underlying81 d;clear hb ha a;go_enter func83,ntmps83;go_wp2;go_end0;exact⟨rfl,rfl⟩
theorem Xhb {P:Program}{w:World}{ops:Array Oper}{rest:List Oper}{o:Oper}{a:Act}{Q:Exit→Act→World→Prop}(hgd:o.guard=none)(sl x:Operand)(t u:TypeId) (ho:o.op=.call {callee:=.builtin .append,args:=#[sl,x],argTypes:=#[t,u]}) (base:Nat) (e:TypeId) (i:TypeInfo) (ht:P.underlying t=some (.slice e)) (hu:P.underlying u=some .string) (hi:P.info? e=some i) (hz:i.zero=some (.int .u8 0)) (hsize:i.size=1) (hby:i.bytes=1) (v:Value) (n:Nat) (xs:List Value) (hs:a.eval sl=v) (hown:w.ownsRowF base e 1 v n xs) (s:ByteArray) (hx:a.eval x=.string s) (hbytes:n+s.size≤140737488355328) (hbase:base≤w.heap.size) (h:∀v' w',w'.ownsRowF base e 1 v' (n+s.size) (xs++Lib.strCells s)→w.grownBy w' v.ownBlock→Yon w v v'→wpList P ops Q rest (a.put o.dst v') w'):wpList P ops Q (o::rest) a w:=by refine wpList_plain hgd fun K hK=>?_;obtain⟨v',w',f,b,c,d⟩:=Xx0 (P:=P) w base t u o.type e i ht hu hi hz hsize hby v n xs hown s hbytes hbase;unfold Oper.wp execOp;simp only[ho,resolve,invoke,builtin,Sem.run_bind,Sem.run_pure,Result.andThen_ok,List.map_toArray,List.map_cons,List.map_nil,hs,hx,f];exact hK _ _ (h v' w' b c d)
structure FrB (b:Nat) (v:Value) (w w':World):Prop where
 os:w'.os=w.os
 tape:w'.tape=w.tape
 output:w'.output=w.output
 size:w.heap.size≤w'.heap.size
 other:∀k,k<w.heap.size→k≠b→v.ownBlock≠some k→w'.heap[k]?=w.heap[k]?
theorem FrB.below {b B:Nat}{v:Value}{w w':World}(h:FrB b v w w')(hB:B≤w.heap.size)(hb:B≤b)(hv:∀k,v.ownBlock=some k→B≤k):Below B w w':=
 ⟨h.os,h.tape,h.output,h.size,fun k hk=>h.other k (by omega) (by omega) (fun e=>by have:=hv k e;omega)⟩
def Yhx (w:World)(B b o:Nat)(T:TypeId)(cs:Array Value)(v:Value)(xs:List Nat)(w':World):Prop:=
 ∃cs' v',Bd w' B b o T cs' v' xs∧cs'.size=cs.size∧(∀j,j≠o→j≠o+1→cs'[j]?=cs[j]?)∧(v'.ownBlock=v.ownBlock∨∃g,v'.ownBlock=some g∧w.heap.size≤g)∧FrB b v w w'
theorem Ygi {w w0 w1:World}{B b o T:Nat}{cs:Array Value}{v v':Value}{ys:List Nat}{n:Nat}(hT:T≠5)(hB:B≤w.heap.size)(hb:w.heap[b]?=some (.cells cs T (0,0)))(ho:o+1<cs.size) (hb0:w0.heap[b]?=some (.cells (cs.setIfInBounds o (.pointer (some ⟨b,o,none⟩))) T (0,0))) (hne:v.ownBlock≠some b) (hw0:w0.os=w.os∧w0.tape=w.tape∧w0.output=w.output∧w.heap.size≤w0.heap.size∧∀k,k<w.heap.size→k≠b→w0.heap[k]?=w.heap[k]?) (hown:w1.ownsRowF B 5 1 v' n (ys.map U)) (hn:n=ys.length) (hg:w0.grownBy w1 v.ownBlock) (hl:Yon w0 v v'):Yhx w B b o T cs v ys (w1.setCell ⟨b,o+1,none⟩ v'):=by
 subst hn;have c:b<w0.heap.size:=zY hb0;have a:w1.heap[b]?=some (.cells (cs.setIfInBounds o (.pointer (some ⟨b,o,none⟩))) T (0,0)):=(hg.block b c (fun e=>hne e.symm)).trans hb0;have d:v'.ownBlock≠some b:=Xnw hown a hT;refine⟨_,v',⟨Xez a _ _,.inr ?_,?_,Xud hown d _ _⟩,by simp,?_,?_,?_⟩;·rw[Array.getElem?_setIfInBounds_ne (by omega),Array.getElem?_setIfInBounds_self,qP (by omega)]
 ·rw[Array.getElem?_setIfInBounds_self,qP (by simpa using ho)]
 ·intro j f g;rw[Array.getElem?_setIfInBounds_ne (by omega),Array.getElem?_setIfInBounds_ne (by omega)]
 ·rcases hl with h|h;·exact .inl h
  exact .inr ⟨_,h,hw0.2.2.2.1⟩
 refine⟨hg.os.trans hw0.1,hg.tape.trans hw0.2.1,hg.output.trans hw0.2.2.1,?_,?_⟩;·have:=hg.size;have:=hw0.2.2.2.1;simp[World.setCell];omega
 intro k i f g;rw[Xet _ _ _ _ _ f,hg.block k (Nat.lt_of_lt_of_le i hw0.2.2.2.1) (fun e=>g e.symm),hw0.2.2.2.2 k i f]
structure Copied (w w0:World) (b o:Nat) (T:TypeId) (cs:Array Value):Prop where
 heap:w0.heap[b]?=some (.cells (cs.setIfInBounds o (.pointer (some ⟨b,o,none⟩))) T (0,0))
 same:w0.os=w.os∧w0.tape=w.tape∧w0.output=w.output∧w.heap.size≤w0.heap.size∧∀k,k<w.heap.size→k≠b→w0.heap[k]?=w.heap[k]?
theorem Ydv {cs:Array Value}{o:Nat}{x:Value}(h:cs[o]?=some x):cs.setIfInBounds o x=cs:=by
 obtain⟨d,b⟩:=Array.getElem?_eq_some_iff.1 h;apply Array.ext;·simp
 intro i a c;rw[Array.getElem_setIfInBounds (by simpa using a)];split;·rename_i e;subst e;exact b.symm
 rfl
theorem Yf5 (w:World)(B b o:Nat)(T:TypeId)(cs:Array Value)(v:Value)(xs:List Nat)(h:Bd w B b o T cs v xs)(hT:T≠5) (hl:liesAt prog prog.depth T (cs.size/prog.cellsOf T) o 84 1=true):∃w0,Copied w w0 b o T cs∧w0.ownsRowF B 5 1 v xs.length (xs.map U)∧Calls prog 83 #[.pointer (some ⟨b,o,none⟩)] w fun e w'=>e=.returned (.tuple #[])∧w0=w':=by
 obtain⟨d,c,g,a⟩:=h;have f:=Xnw a d hT;rcases c with c|c;·exact⟨_,⟨Xez d o _,rfl,rfl,rfl,by simp[World.setCell],fun k _ hk=>Xet _ _ _ _ _ hk⟩,Xud a f o _,(Yf4 w b o T cs d c hl).mono fun e w' ⟨h1,h2⟩=>⟨h1,h2.symm⟩⟩
 exact⟨w,⟨by rw[Ydv c];exact d,rfl,rfl,rfl,zL _,fun k _ _=>rfl⟩,a,Yf3 w b o T cs d c⟩
theorem Xjq (w:World)(B b o:Nat)(T:TypeId)(cs:Array Value)(v:Value)(xs:List Nat)(s:ByteArray)(h:Bd w B b o T cs v xs)(hT:T≠5)(hBw:B≤w.heap.size) (hl:liesAt prog prog.depth T (cs.size/prog.cellsOf T) o 84 1=true) (hlen:xs.length+s.size≤140737488355328):Calls prog 40 #[.pointer (some ⟨b,o,none⟩),.string s] w fun e w'=>e=.returned (.tuple #[.int .i64 (s.size:Int),.nilIface])∧Yhx w B b o T cs v (xs++bs s) w':=by
 obtain⟨I,x,y,z,A⟩:=info_parts Yl9;obtain⟨w0,d,k,f⟩:=Yf5 w B b o T cs v xs h hT hl;obtain⟨u,E,c,q⟩:=h;have G:o+1<cs.size:=(Array.getElem?_eq_some_iff.1 c).1;have p:=Xnw q u hT;have fin:=fun(v':Value) (w1:World) a hg j=>Ygi (w:=w) (w0:=w0) (w1:=w1) (v':=v') (ys:=xs++bs s) (n:=xs.length+s.size) hT hBw u G d.heap p d.same a (by rw[List.length_append,Xac]) hg j;have H:s.size≤9223372036854775807:=by omega
 have C:=Hd f;have m:B≤w0.heap.size:=Nat.le_trans hBw d.same.2.2.2.1;have F:w0.cell? ⟨b,o+1,none⟩=some v:=by rw[Xxq d.heap,Array.getElem?_setIfInBounds_ne (by omega)];exact c
 have r:=Hd fin;have l:=Hd d.heap;have t:=Hd c;clear d fin u c hl E f;go_enter func40,ntmps40;go_wp2_with (first|(go_at_call 83;refine C.o.mono ?_;rintro e w' ⟨rfl,rfl⟩)|(at_builtin;refine Xhb rfl _ _ _ _ rfl B 5 I underlying82 underlying9 x y z A v xs.length (xs.map U) rfl k s rfl hlen m ?_;intro v' w1 a g j;obtain⟨J,K,rfl⟩:=Xwh a;have i:=(g.block b (zY l.o) (fun e=>p e.symm)).trans l.o;have D:=Xxq i (o+1);rw[Array.getElem?_setIfInBounds_ne (by omega),t.o] at D;have L:=Xby i (o+1);clear i))
 go_ret2;refine⟨rfl,r.o _ _ ?_ g j⟩;rw[List.map_append,←Xrd];exact a
theorem Ymu:prog.cellsOf 5=1:=by kernel_rfl
theorem Xqa {w:World}{g n:Nat}{cur:Array Value}{e:TypeId}{fz:Nat×Nat}(hg:w.heap[g]?=some (.cells cur e fz))(hn:n≠0)(hfz:fz.2≤n):∃fz',(w.freeze ⟨g,0,none⟩ n).heap[g]?=some (.cells cur e fz')∧fz'.2≤n:=by
 obtain⟨lo,hi⟩:=fz;simp only at hfz;unfold World.freeze;rw[qN hn];simp only[Array.getElem?_modify,hg,if_true,Option.map_some];refine⟨_,rfl,?_⟩;split;·simp
 simp only[Nat.zero_add];omega
theorem Xiu {w:World}{g n k:Nat}(h:k≠g):(w.freeze ⟨g,0,none⟩ n).heap[k]?=w.heap[k]?:=by
 unfold World.freeze;split;·rfl
 simp only[Array.getElem?_modify];rw[qN (by omega)]
theorem Xsd (w:World)(g n:Nat):(w.freeze ⟨g,0,none⟩ n).heap.size=w.heap.size:=by
 unfold World.freeze;split;·rfl
 simp
theorem Yck {w:World}{B b o T g n cap:Nat}{cs:Array Value}{xs:List Nat}(h:Bd w B b o T cs (.slice (some ⟨g,0,none⟩) n cap) xs)(hT:T≠5)(hn:n=xs.length)(h0:n≠0):Bd (w.freeze ⟨g,0,none⟩ n) B b o T cs (.slice (some ⟨g,0,none⟩) n cap) xs∧FrB b (.slice (some ⟨g,0,none⟩) n cap) w (w.freeze ⟨g,0,none⟩ n):=by
 have i:=Xnw h.row h.heap hT;have f:b≠g:=fun e=>i (by simp[Value.ownBlock,e]);refine⟨⟨(Xiu f).trans h.heap,h.addr,h.buf,h.row.1,?_⟩,?_⟩
 ·rcases h.row.2 with⟨hv,_⟩|⟨g',cap',cur,fz,hv,hb,hg,hfz,r⟩;·simp at hv
  have a:=hv;simp only[Value.slice.injEq,Option.some.injEq,Addr.mk.injEq] at a;obtain⟨⟨rfl,_⟩,_,rfl⟩:=a;obtain⟨c,j,d⟩:=Xqa hg h0 (by rw[hn];simpa using hfz);exact .inr ⟨g,cap,cur,c,hv,hb,j,by rw[←hn];simpa using d,r⟩
 refine⟨?_,?_,?_,by rw[Xsd];exact zL _,fun k _ _ d=>Xiu (fun e=>d (by simp[Value.ownBlock,e]))⟩<;>(unfold World.freeze;split<;>rfl)
theorem FrB.refl (b:Nat)(v:Value)(w:World):FrB b v w w:=⟨rfl,rfl,rfl,zL _,fun _ _ _ _=>rfl⟩
theorem Bd.drew {w:World}{B b o T:Nat}{cs:Array Value}{v:Value}{xs:List Nat}(h:Bd w B b o T cs v xs):Bd w.drew B b o T cs v xs:=⟨h.1,h.2,h.3,h.4⟩
theorem FrB.drew {b:Nat}{v:Value}{w w':World}(h:FrB b v w w'):FrB b v w w'.drew:=⟨h.1,h.2,h.3,h.4,h.5⟩
theorem Xwi {w:World}{base e size n:Nat}{v:Value}{xs:List Value}(h:w.ownsRowF base e size v n xs)(o:Obj):(w.alloc o).ownsRowF base e size v n xs:=
 h.kept (World.grownBy_alloc w o none) (by cases hv:v.ownBlock<;>simp)
theorem Bd.alloc {w:World}{B b o T:Nat}{cs:Array Value}{v:Value}{xs:List Nat}(h:Bd w B b o T cs v xs)(x:Obj):Bd (w.alloc x) B b o T cs v xs:=⟨Xad h.1,h.2,h.3,Xwi h.4 x⟩
theorem FrB.alloc {b:Nat}{v:Value}{w w':World}(h:FrB b v w w')(x:Obj):FrB b v w (w'.alloc x):=⟨h.1,h.2,h.3,by have:=h.4;simp;omega,fun k hk h1 h2=>(Below.heap_alloc w' x k (Nat.lt_of_lt_of_le hk h.4)).trans (h.5 k hk h1 h2)⟩
def Ykr (w:World)(B b o:Nat)(T:TypeId)(cs:Array Value)(v:Value)(xs:List Nat)(e:Ending)(w':World):Prop:=
 e=.returned (.string (Xax xs))∧Bd w' B b o T cs v xs∧FrB b v w w'
theorem Xs1 (w:World)(B b o:Nat)(T:TypeId)(cs:Array Value)(v:Value)(xs:List Nat)(h:Bd w B b o T cs v xs)(hT:T≠5)(hx:∀x∈xs,x<256)(hlen:xs.length≤140737488355328):Calls prog 41 #[.pointer (some ⟨b,o,none⟩)] w (Ykr w B b o T cs v xs):=by
 have f:=Xxq h.heap (o+1);rw[h.buf] at f;rcases h.row.2 with⟨rfl,h0⟩|⟨g,cap,cur,fz,rfl,hbg,hg,hfz,hnc,hcm,hcs,htake⟩
 ·obtain rfl:xs=[]:=List.eq_nil_of_length_eq_zero h0;have H:=Hd h;have s1:=fun(w:World)=>Lib.run_unsafeSliceData_nil (P:=prog) w #[82] 130 0 0;have s2:=fun(w:World)=>Lib.run_unsafeString_none (P:=prog) w 130 3 9 none;clear h;go_enter func41,ntmps41;go_wp2_with fail;go_region;all_goals go_wp2_with fail
  all_goals go_ret
  all_goals exact⟨rfl,H.o.drew,(FrB.refl _ _ _).drew⟩
 obtain⟨n,d⟩:=xq xs.length;rw[←d] at f h⊢;by_cases h0:n=0
 ·obtain rfl:xs=[]:=List.eq_nil_of_length_eq_zero (by omega);subst h0;have H:=Hd h;have s2:=fun(w:World) (p:Option Addr)=>Lib.run_unsafeString_none (P:=prog) w 130 3 9 p;by_cases hc0:cap=0
  ·subst hc0;have s1:=Lib.run_unsafeSliceData_zero (P:=prog) w.drew #[82] 130 5 underlying130 ⟨g,0,none⟩ 0 _ (Xtx (w:=w.drew) hg);have k:=Xxq (w:=w.alloc (.view ⟨g,0,none⟩ 5)) (Xad h.heap) (o+1);rw[h.buf] at k;clear h hg hcs htake hfz hnc hcm d;go_enter func41,ntmps41;go_wp2_with fail;go_region;all_goals go_wp2_with fail
   all_goals go_ret
   all_goals exact⟨rfl,(H.o.alloc _).drew,((FrB.refl _ _ _).alloc _).drew⟩
  have s1:=fun(w:World)=>Lib.run_unsafeSliceData_row (P:=prog) w #[82] 130 ⟨g,0,none⟩ 0 cap hc0;clear h hg hcs htake hfz hnc hcm d;go_enter func41,ntmps41;go_wp2_with fail;go_region;all_goals go_wp2_with fail
  all_goals go_ret
  all_goals exact⟨rfl,H.o.drew,(FrB.refl _ _ _).drew⟩
 have H:=Hd (Yck h.drew hT d h0);have s1:=fun(w:World)=>Lib.run_unsafeSliceData_row (P:=prog) w #[82] 130 ⟨g,0,none⟩ n cap (by omega);have c:(xs.map UInt8.ofNat).length=n:=by rw[List.length_map,d]
 have s2:(Builtin.unsafeString_ #[130,3] 9 #[.pointer (some ⟨g,0,none⟩),.int .i64 (n:Int)]).run prog w.drew=.ok (.string (Xax xs)) (w.drew.freeze ⟨g,0,none⟩ n):=by
  have q:=Lib.run_unsafeString_row (P:=prog) w.drew 130 3 9 5 underlying130 Ymu g cur.size (Xtx hg) (xs.map UInt8.ofNat) (by intro e;rw[e] at c;simp at c;omega) (by rw[c,hcs];omega) (by rw[c];omega) ?_;·rw[c] at q;exact q
  intro j x i;have a:j<xs.length:=by have:=(List.getElem?_eq_some_iff.1 i).1;simpa using this
  have s:=h.row.cells (g:=g) rfl j (U xs[j]) (by rw[List.getElem?_map,List.getElem?_eq_getElem a];rfl);rw[List.getElem?_map,List.getElem?_eq_getElem a] at i;simp only[Option.map_some,Option.some.injEq] at i;subst i;have l:=hx _ (zG a);have r:(UInt8.ofNat xs[j]).toNat=xs[j]:=Nat.mod_eq_of_lt l;rw[r];exact s
 have m:n≤9223372036854775807:=by omega
 clear h c hcs htake hg hfz hnc hcm d hx;go_enter func41,ntmps41;go_wp2_with fail;go_region;all_goals go_wp2_with fail
 all_goals go_ret
 all_goals exact⟨rfl,H.o.1,⟨H.o.2.1,H.o.2.2,H.o.2.3,H.o.2.4,H.o.2.5⟩⟩
section
variable {P:Program} {ops:Array Oper} {rest:List Oper} {o:Oper} {a:Act} {w w':World} {Q:Exit→Act→World→Prop} {v:Value}
theorem Xaz (hgd:o.guard=none)(h:(execOp a.eval o).run P w=.ok (.value v) w')(hk:wpList P ops Q rest (a.put o.dst v) w'):wpList P ops Q (o::rest) a w:=
 wpList_plain hgd fun K hK=>by unfold Oper.wp;rw[h];exact hK _ _ hk
theorem Xfj (hgd:o.guard=none)(h:(execOp a.eval o).run P w=.ok .skip w')(hk:wpList P ops Q rest (a.put o.dst undef) w'):wpList P ops Q (o::rest) a w:=
 wpList_plain hgd fun K hK=>by unfold Oper.wp;rw[h];exact hK _ _ hk
theorem Xpq {C:World→Prop}{K:Act→Prop}(h:∀w,C w→(execOp a.eval o).run P w=.ok (.value v) w)(hk:K (a.put o.dst v)):o.quiet P a C K:=
 ⟨v,fun w hw=>by unfold Oper.quietAt;rw[h w hw];exact⟨rfl,rfl⟩,hk⟩
theorem Xaj {ty:TypeId}{x:Operand}{ad:Addr}(ho:o.op=.load ty x)(hx:a.eval x=.pointer (some ad))(hl:(loadVar ty ad).run P w=.ok v w):(execOp a.eval o).run P w=.ok (.value v) w:=by unfold execOp;simp only[ho,hx,Instr.loadAt,Instr.sureAddr,Sem.run_bind,Sem.run_pure,Result.andThen_ok,hl]
theorem Xdd {t:TypeId}{ps:Array (Nat×Operand)}(ho:o.op=.build t ps)(hb:(Instr.build t (ps.map fun(i,x)=>(i,a.eval x))).run P w=.ok v w):(execOp a.eval o).run P w=.ok (.value v) w:=by unfold execOp;simp only[ho,Sem.run_bind,Sem.run_pure,Result.andThen_ok,hb]
theorem Xak {t:TypeId}{x y:Operand}{ad:Addr}{u:Value}(ho:o.op=.store t x y)(hx:a.eval x=.pointer (some ad))(hy:a.eval y=u)(hs:(storeVar t ad u).run P w=.ok () w'):(execOp a.eval o).run P w=.ok .skip w':=by unfold execOp;simp only[ho,hx,hy,Instr.storeAt,Instr.sureAddr,Sem.run_bind,Sem.run_pure,Result.andThen_ok,hs]
theorem Xu1 {t t':TypeId}{x y:Operand}{xs ys:Array Value}{r:Bool}(ho:o.op=.binOp .eql t x y t')(hx:a.eval x=.agg xs)(hy:a.eval y=.agg ys)(hm:P.eqGuardType P.depth t=false)(he:(Op.equal t (.agg xs) (.agg ys)).run P w=.ok r w):(execOp a.eval o).run P w=.ok (.value (.bool r)) w:=by unfold execOp;simp only[ho,hx,hy,Sem.run_bind,Sem.run_pure,Result.andThen_ok,run_eqGuard_agg w _ _ _ _ _ _ hm,binOp,he]
theorem Xn7 {t t':TypeId}{x y:Operand}{xs ys:Array Value}{r:Bool}(ho:o.op=.binOp .neq t x y t')(hx:a.eval x=.agg xs)(hy:a.eval y=.agg ys)(hm:P.eqGuardType P.depth t=false)(he:(Op.equal t (.agg xs) (.agg ys)).run P w=.ok r w):(execOp a.eval o).run P w=.ok (.value (.bool !r)) w:=by unfold execOp;simp only[ho,hx,hy,Sem.run_bind,Sem.run_pure,Result.andThen_ok,run_eqGuard_agg w _ _ _ _ _ _ hm,binOp,he]
theorem Xfb (w:World)(g off:Nat)(t ty:TypeId)(cs ids:Array Value)(fr:Nat×Nat)(d:TypeDesc)(hg:w.heap[g]?=some (.cells cs t fr)) (hu:P.underlying ty=some d) (hd:(match d with|.struct _|.array _ _=>true|_=>false)=true) (hi:(P.info? ty).map (·.size)=some ids.size) (hp:∀j u,ids[j]?=some u→cs[off+j]?=some u):(loadVar ty ⟨g,off,none⟩).run P w=.ok (.agg ids) w:=by
 have e:(loadCells ⟨g,off,none⟩ ids.toList.length).run P w=.ok ids.toList.toArray w:=
  run_loadCells_list (P:=P) w ⟨g,off,none⟩ ids.toList (fun j u hv=>by
   have b:(⟨g,off,none⟩:Addr).add j=⟨g,off+j,none⟩:=by unfold Addr.add;split<;>simp_all
   rw[b,cell_of_row w g (off+j) cs t fr hg];exact hp j u (by simpa using hv))
 cases hq:P.info? ty with
 |none=>simp[hq] at hi
 |some i=>
  have f:i.size=ids.size:=by simpa [hq] using hi
  have c:(isAgg ty).run P w=.ok true w:=by unfold isAgg;rw[Sem.run_bind,run_underlying hu w];cases d<;>simp_all
  simp only[Array.length_toList,Array.toArray_toList] at e;simp[loadVar,Sem.run_bind,c,sizeOf,typeInfo,hq,f,e]
end
theorem Xqd (off:Nat):∀(vs:List Value) (k:Nat) (cs:Array Value),off+k+vs.length≤cs.size→ (vs.zipIdx k).foldl (fun cs (p:Value×Nat)=>cs.setIfInBounds (off+p.2) p.1) cs=(cs.toList.take (off+k)++vs++cs.toList.drop (off+k+vs.length)).toArray
 |[],k,cs,h=>by simp
 |v::vs,k,cs,h=>by
  rw[List.zipIdx_cons,List.foldl_cons,Xqd off vs (k+1) _ (by simp at h⊢;omega)];congr 1;simp only[Array.toList_setIfInBounds,List.length_cons];have b:off+k<cs.toList.length:=by simp at h⊢;omega
  rw[List.take_set,List.drop_set_of_lt (by omega),show off+(k+1)=(off+k)+1 by omega];have c:(cs.toList.take (off+k+1)).set (off+k) v=cs.toList.take (off+k)++[v]:=by rw[List.take_succ_eq_append_getElem b,List.set_append_right _ _ (by simp;omega)];simp only[List.length_take];rw[Nat.min_eq_left (by omega),Nat.sub_self,List.set_cons_zero]
  rw[c,show off+k+1+vs.length=off+k+(vs.length+1) by omega];simp
def Xto (cs:Array Value)(off:Nat)(vs:Array Value):Array Value:=(cs.toList.take off++vs.toList++cs.toList.drop (off+vs.size)).toArray
theorem Ybf {place:Nat→Option (Nat×Nat)}{cs:Array Value}{i off size:Nat}{v:Value}{rest:List (Nat×Value)}(hp:place i=some (off,size))(hs:v.cells.size=size)(hl:off+size≤cs.size):Instr.fill place cs ((i,v)::rest)=Instr.fill place (Xto cs off v.cells) rest:=by rw[Instr.fill,hp];simp only;rw[qN (by simp;omega)];congr 1;rw[←Array.foldl_toList,Array.toList_zipIdx];have:=Xqd off v.cells.toList 0 cs (by simp;omega);simp only[Nat.add_zero,Array.length_toList] at this;exact this
theorem Xi3 {P:Program}(w:World)(t:TypeId)(fs:Array Field)(zs cells:Array Value)(pl:Array (Nat×Nat))(ps:Array (Nat×Value))(hz:(zeroValue t).run P w=.ok (.agg zs) w)(hu:P.underlying t=some (.struct fs)) (hpl:(fs.mapM fun(f:Field)=>do pure (f.offset,←sizeOf f.type)).run P w=.ok pl w) (hf:Instr.fill (pl[·]?) zs ps.toList=some cells):(Instr.build t ps).run P w=.ok (.agg cells) w:=by unfold Instr.build;simp only[Sem.run_bind,hz,Result.andThen_ok,run_underlying hu,hpl,Value.cells,hf,Sem.run_pure]
def idA (l:List Nat):Array Value:=(l.map U).toArray
structure IdOk (l:List Nat):Prop where
 len:l.length=32
 lt:∀x∈l,x<256
theorem Xaf (l:List Nat):(idA l).size=l.length:=by simp[idA]
theorem Ym5 (xs:List Value)(l:List Nat)(ys:List Value)(n:Nat)(h:xs.length=n):∀j u,(idA l)[j]?=some u→(xs++l.map U++ys).toArray[n+j]?=some u:=by intro j u a;subst h;unfold idA at a;rw[List.getElem?_toArray] at a⊢;have b:=(List.getElem?_eq_some_iff.1 a).1;rw[List.append_assoc,List.getElem?_append_right (by omega),Nat.add_sub_cancel_left,List.getElem?_append_left b];exact a
theorem Xbh:(prog.info? 26).map (·.size)=some 32:=by kernel_rfl
theorem Xkg (w:World)(g off:Nat)(t:TypeId)(cs:Array Value)(fr:Nat×Nat){l:List Nat}(h:l.length=32)(hg:w.heap[g]?=some (.cells cs t fr))(hp:∀j u,(idA l)[j]?=some u→cs[off+j]?=some u):Ld 26 ⟨g,off,none⟩ w (.agg (idA l)):=
 Xfb w g off t 26 cs (idA l) fr _ hg underlying26 rfl (by rw[Xaf,h];exact Xbh) hp
theorem Xjy (xs ys zs:List Value)(vs:Array Value)(n:Nat)(h1:xs.length=n)(h2:ys.length=vs.size):Xto (xs++ys++zs).toArray n vs=(xs++vs.toList++zs).toArray:=by
 subst h1;unfold Xto;have a:(xs++ys++zs).take xs.length=xs:=by rw[List.append_assoc,List.take_left]
 have b:(xs++ys++zs).drop (xs.length+vs.size)=zs:=by rw[←h2,←List.length_append,List.drop_left]
 simp only[a,b]
theorem Xsf {place:Nat→Option (Nat×Nat)}{cs cs' r:Array Value}{i off size:Nat}{v:Value}{rest:List (Nat×Value)}(hp:place i=some (off,size))(hs:v.cells.size=size)(hl:off+size≤cs.size) (he:Xto cs off v.cells=cs') (hr:Instr.fill place cs' rest=some r):Instr.fill place cs ((i,v)::rest)=some r:=by rw[Ybf hp hs hl,he];exact hr
theorem Xkf {α β:Type}(f:α→Option β)(g:α→β):∀(L:List α),(∀i∈L,f i=some (g i))→L.mapM f=some (L.map g)
 |[],_=>rfl
 |x::L,h=>by rw[List.mapM_cons,h x (by simp),Xkf f g L (fun i hi=>h i (by simp[hi]))];rfl
theorem Xog:prog.cellsOf 26=32:=by kernel_rfl
theorem Yhr:prog.cellsOf 5=1:=by kernel_rfl
def Xcv (l:List Nat):List Lit:=l.map fun n:Nat=>Lit.int .u8 (n:Int)
theorem Xix {l m:List Nat}(h:Xcv l=Xcv m):l=m:=by unfold Xcv at h;exact(List.map_inj_right (fun a b hab=>by simp at hab;omega)).1 h
section
variable {P:Program} {d n:Nat} {t e:TypeId} {cs:List Value} {fs:Array Field} {q:IntKind}
theorem Xhj (hu:P.underlying t=some (.array n e)):P.keyLits (d+1) t cs=if cs.length=P.cellsOf t then((List.range n).mapM fun i=>P.keyLits d e ((cs.drop (i*P.cellsOf e)).take (P.cellsOf e))).map List.flatten else none:=by rw[Program.keyLits.eq_def];simp only[hu]
theorem Xko (hu:P.underlying t=some (.int q)){m:Int}(hw:(Lit.int q m).wf=true):P.keyLits (d+1) t [.int q m]=some [.int q m]:=by rw[Program.keyLits.eq_def];simp only[hu,hw,and_self,if_true]
end
theorem Xr2 (D:Nat){l:List Nat}(h:IdOk l):prog.keyLits (D+2) 26 (l.map U)=some (Xcv l):=by
 rw[Xhj underlying26,qP (by rw[List.length_map,h.len,Xog])];rw[Xkf _ (fun i=>[Lit.int .u8 (l.getD i 0:Int)])]
 ·simp only[Option.map_some,Option.some.injEq];unfold Xcv;have:(List.range 32).map (fun i=>[Lit.int .u8 (l.getD i 0:Int)])=(l.map fun n:Nat=>[Lit.int .u8 (n:Int)]):=by
   apply List.ext_getElem;·simp[h.len]
   intro i b c;simp at b;simp[List.getD,List.getElem?_eq_getElem (show i<l.length by rw[h.len];exact b)]
  rw[this];clear this h
  induction l with
  |nil=>rfl
  |cons x l ih=>simp[ih]
 intro i hi;have a:i<l.length:=by rw[h.len];exact List.mem_range.1 hi
 have f:=h.lt _ (zG a);have e:((l.map U).drop (i*prog.cellsOf 5)).take (prog.cellsOf 5)=[Value.int .u8 (l[i]:Int)]:=by rw[Yhr,Nat.mul_one,List.drop_eq_getElem_cons (by simpa using a)];simp[U]
 rw[e,Xko underlying5 (by simp[Lit.wf,IntKind.min,IntKind.max,IntKind.signed,IntKind.bits];omega)];simp[List.getD,List.getElem?_eq_getElem a]
theorem Yfq (w:World){l m:List Nat}(hl:IdOk l)(hm:IdOk m):(Op.equal 26 (.agg (idA l)) (.agg (idA m))).run prog w=.ok (decide (l=m)) w:=by
 obtain⟨r,b,a⟩:=run_equalIn_deep (P:=prog) 9997 3 26 (by kernel_rfl) w 2 2 (.agg (idA l)) (.agg (idA m)) (Xcv l) (Xcv m) (by simp[Value.formed,underlying26,Xog,Xaf,hl.len]) (by simp[Value.formed,underlying26,Xog,Xaf,hm.len]) (Xr2 0 hl) (Xr2 0 hm);have e:r=decide (l=m):=by rw[Bool.eq_iff_iff,a,decide_eq_true_iff];exact⟨Xix,fun e=>by rw[e]⟩
 rw[←e];exact b
theorem Xn6:prog.eqGuardType prog.depth 26=false:=by kernel_rfl
theorem Xg5 (l:List Nat):∀j u,(idA l)[j]?=some u→(idA l)[0+j]?=some u:=fun j u hu=>by rw[Nat.zero_add];exact hu
theorem Xsh {P:Program}{o:Oper}{a:Act}{w:World}{v:Value}{t:TypeId}{i j:Nat}{x y:Operand}{vx vy:Value}(ho:o.op=.build t #[(i,x),(j,y)])(hx:a.eval x=vx)(hy:a.eval y=vy)(hb:(Instr.build t #[(i,vx),(j,vy)]).run P w=.ok v w):(execOp a.eval o).run P w=.ok (.value v) w:=by refine Xdd ho ?_;simpa [hx,hy] using hb
section
variable {P:Program} {ops:Array Oper} {rest:List Oper} {o:Oper} {a:Act} {w:World} {Q:Exit→Act→World→Prop}
theorem Xab (ty:TypeId)(hgd:o.guard=none)(x:Operand)(ho:o.op=.load ty x)(h:∃ad v,a.eval x=.pointer (some ad)∧(loadVar ty ad).run P w=.ok v w∧wpList P ops Q rest (a.put o.dst v) w):wpList P ops Q (o::rest) a w:=by obtain⟨ad,v,b,c,d⟩:=h;exact Xaz hgd (Xaj ho b c) d
theorem Xdn (t:TypeId)(hgd:o.guard=none){i j:Nat}(x y:Operand)(ho:o.op=.build t #[(i,x),(j,y)])(h:∃b c v,a.eval x=b∧a.eval y=c∧(Instr.build t #[(i,b),(j,c)]).run P w=.ok v w∧wpList P ops Q rest (a.put o.dst v) w):wpList P ops Q (o::rest) a w:=by obtain⟨b,c,v,d,e,f,g⟩:=h;exact Xaz hgd (Xsh ho d e f) g
theorem Xaa (t:TypeId)(hgd:o.guard=none)(x y:Operand)(ho:o.op=.store t x y)(h:∃ad u w',a.eval x=.pointer (some ad)∧a.eval y=u∧(storeVar t ad u).run P w=.ok () w'∧wpList P ops Q rest (a.put o.dst undef) w'):wpList P ops Q (o::rest) a w:=by obtain⟨ad,u,w',b,c,d,e⟩:=h;exact Xfj hgd (Xak ho b c d) e
theorem Xl0 (t:TypeId)(hgd:o.guard=none)(x y:Operand){t':TypeId}(ho:o.op=.binOp .neq t x y t')(hm:P.eqGuardType P.depth t=false)(h:∃xs ys r,a.eval x=.agg xs∧a.eval y=.agg ys∧(Op.equal t (.agg xs) (.agg ys)).run P w=.ok r w∧wpList P ops Q rest (a.put o.dst (.bool !r)) w):wpList P ops Q (o::rest) a w:=by obtain⟨xs,ys,r,b,c,d,e⟩:=h;exact Xaz hgd (Xn7 ho b c hm d) e
theorem Xc8 (t:TypeId)(hgd:o.guard=none)(x y:Operand){t':TypeId}(ho:o.op=.binOp .eql t x y t')(hm:P.eqGuardType P.depth t=false)(h:∃xs ys r,a.eval x=.agg xs∧a.eval y=.agg ys∧(Op.equal t (.agg xs) (.agg ys)).run P w=.ok r w∧wpList P ops Q rest (a.put o.dst (.bool r)) w):wpList P ops Q (o::rest) a w:=by obtain⟨xs,ys,r,b,c,d,e⟩:=h;exact Xaz hgd (Xu1 ho b c hm d) e
theorem Xin {Q:Act→Prop}(ty:TypeId)(hgd:o.guard=none)(x:Operand)(ho:o.op=.load ty x)(h:∃ad v,a.eval x=.pointer (some ad)∧(loadVar ty ad).run P w=.ok v w∧wpStill P ops w Q rest (a.put o.dst v)):wpStill P ops w Q (o::rest) a:=by obtain⟨ad,v,b,c,d⟩:=h;refine wpStill_step fun K hK=>?_;rw[qP (by simp[Region.wanted,hgd])];unfold Oper.still;rw[Xaj ho b c];exact⟨rfl,hK _ d⟩
theorem Xio {Q:Act→Prop}{C:World→Prop}(ty:TypeId)(hgd:Region.wanted o (yielded ops a.tmps)=true)(x:Operand)(ho:o.op=.load ty x)(h:∃ad v,a.eval x=.pointer (some ad)∧(∀w,C w→(loadVar ty ad).run P w=.ok v w)∧wpQuiet P ops C Q rest (a.put o.dst v)):wpQuiet P ops C Q (o::rest) a:=by obtain⟨ad,v,b,c,d⟩:=h;exact BigFrame.wpQuiet_want hgd fun K hK=>Xpq (fun w hw=>Xaj ho b (c w hw)) (hK _ d)
theorem Xq6 {Q:Act→Prop}{C:World→Prop}(t:TypeId)(hgd:Region.wanted o (yielded ops a.tmps)=true)(x y:Operand){t':TypeId}(ho:o.op=.binOp .eql t x y t')(hm:P.eqGuardType P.depth t=false)(h:∃xs ys r,a.eval x=.agg xs∧a.eval y=.agg ys∧(∀w,(Op.equal t (.agg xs) (.agg ys)).run P w=.ok r w)∧wpQuiet P ops C Q rest (a.put o.dst (.bool r))):wpQuiet P ops C Q (o::rest) a:=by obtain⟨xs,ys,r,b,c,d,e⟩:=h;exact BigFrame.wpQuiet_want hgd fun K hK=>Xpq (fun w hw=>Xu1 ho b c hm (d w)) (hK _ e)
end
def BoxI (w:World)(b:Nat)(n:Nat):Prop:=w.heap[b]?=some (.cells #[.int .i64 n] 3 (0,0))
structure RG (B fr tt pf bits count:Nat) (xs:List Nat) (w:World):Prop where
 bBits:BoxI w (B+5) bits
 bFrom:BoxI w (B+2) fr
 bCount:BoxI w (B+6) count
 bTo:BoxI w (B+3) tt
 bPass:w.heap[B+4]?=some (.cells #[.func (.func pf) #[] #[.pointer (some ⟨B+1,0,none⟩)]] 183 (0,0))
 txt:∃v,w.heap[B+1]?=some (.cells #[v] 82 (0,0))∧w.ownsRow B 5 1 v xs.length (xs.map U)
def Xvi (w0:World)(B pf m:Nat)(f:Nat→Nat):Prop:=
 ∀(w:World) (v:Value) (xs:List Nat) (g:Nat),Below B w0 w→w.heap[B+1]?=some (.cells #[v] 82 (0,0))→w.ownsRow B 5 1 v xs.length (xs.map U)→xs.length≤1000000→g<m→
  Calls prog pf #[.int .i64 g,.pointer (some ⟨B+1,0,none⟩)] w fun e w'=>e=.returned (.tuple #[])∧
   (∃v',w'.heap[B+1]?=some (.cells #[v'] 82 (0,0))∧w'.ownsRow B 5 1 v' (xs.length+1) ((xs++[f g]).map U))∧Frame1 B (B+1) v w w'
theorem Xs3 (a b:Nat)(ha:a<9223372036854775808)(hb:b<9223372036854775808):bits .or .i64 (a:Int) (b:Int)=((a|||b:Nat):Int):=by
 have e:a|||b<2^63:=Nat.or_lt_two_pow (by omega) (by omega);have c:(BitVec.ofInt 64 (a:Int)).toNat=a:=by rw[BitVec.ofInt_natCast,BitVec.toNat_ofNat];exact Nat.mod_eq_of_lt (by omega)
 have d:(BitVec.ofInt 64 (b:Int)).toNat=b:=by rw[BitVec.ofInt_natCast,BitVec.toNat_ofNat];exact Nat.mod_eq_of_lt (by omega)
 show IntKind.i64.wrap ((BitVec.ofInt 64 (a:Int)|||BitVec.ofInt 64 (b:Int)).toNat:Int)=_;rw[BitVec.toNat_or,c,d,IntKind.wrap_i64];omega
theorem Xqy (a b:Nat)(ha:a<9223372036854775808)(hb:b<9223372036854775808):bits .and .i64 (a:Int) (b:Int)=((a&&&b:Nat):Int):=by
 have e:a&&&b<2^63:=Nat.and_lt_two_pow _ (by omega);have c:(BitVec.ofInt 64 (a:Int)).toNat=a:=by rw[BitVec.ofInt_natCast,BitVec.toNat_ofNat];exact Nat.mod_eq_of_lt (by omega)
 have d:(BitVec.ofInt 64 (b:Int)).toNat=b:=by rw[BitVec.ofInt_natCast,BitVec.toNat_ofNat];exact Nat.mod_eq_of_lt (by omega)
 show IntKind.i64.wrap ((BitVec.ofInt 64 (a:Int)&&&BitVec.ofInt 64 (b:Int)).toNat:Int)=_;rw[BitVec.toNat_and,c,d,IntKind.wrap_i64];omega
theorem Xm8 {n:Int}(h0:0≤n)(h1:n≤9223372036854775807):wrap64 n=n:=by unfold wrap64;omega
theorem Xue (b fr g:Nat)(hb:b<256)(hfr:fr≤8)(hg:g<2^fr):bits .or .i64 (wrap64 ((b:Int)*2^fr)) (g:Int)=((b*2^fr+g:Nat):Int):=by
 have c:2^fr≤2^8:=Nat.pow_le_pow_right (by omega) hfr;have a:b*2^fr≤256*256:=Nat.mul_le_mul (by omega) (by omega);have e:((b:Int)*2^fr)=((b*2^fr:Nat):Int):=by push_cast;rfl
 rw[e,Xm8 (by omega) (by omega),Xs3 _ _ (by omega) (by omega)];congr 1;have:=Nat.shiftLeft_add_eq_or_of_lt hg b;rw[Nat.shiftLeft_eq] at this;exact this.symm
theorem Ygn (b c:Nat)(hb:b<65536)(hc:c≤16):bits .and .i64 (b:Int) (2^c-1)=((b%2^c:Nat):Int):=by
 have d:2^c≤2^16:=Nat.pow_le_pow_right (by omega) hc;have a:0<2^c:=Nat.pow_pos (by omega);have e:((2:Int)^c-1)=((2^c-1:Nat):Int):=by rw[Int.ofNat_sub a];push_cast;rfl
 rw[e,Xqy _ _ (by omega) (by omega),Nat.and_two_pow_sub_one_eq_mod]
theorem Xq1 (b d:Nat)(hb:b<65536)(hc:d≤16):bits .and .i64 (b:Int) (wrap64 (wrap64 (2^d)-1))=((b%2^d:Nat):Int):=by
 have c:2^d≤2^16:=Nat.pow_le_pow_right (by omega) hc;have a:0<2^d:=Nat.pow_pos (by omega);have e:((2:Int)^d)=((2^d:Nat):Int):=by push_cast;rfl
 rw[Xm8 (n:=2^d) (by rw[e];omega) (by rw[e];omega),Xm8 (by rw[e];omega) (by rw[e];omega)];exact Ygn b d hb hc
theorem BoxI.same {w w':World}{b n:Nat}(h:BoxI w b n)(e:w'.heap[b]?=w.heap[b]?):BoxI w' b n:=e.trans h
theorem BoxI.set {w:World}{b n m:Nat}(h:BoxI w b n):BoxI (w.setCell ⟨b,0,none⟩ (.int .i64 m)) b m:=one_setCell h
theorem BoxI.other {w:World}{b n:Nat}{a:Addr}{u:Value}(h:BoxI w b n)(ha:b≠a.block):BoxI (w.setCell a u) b n:=h.same (Below.heap_setCell _ _ _ _ ha)
theorem RG.setBits {B fr tt pf b c:Nat}{xs:List Nat}{w:World}(h:RG B fr tt pf b c xs w)(b':Nat):RG B fr tt pf b' c xs (w.setCell ⟨B+5,0,none⟩ (.int .i64 b')):=by obtain⟨a,e,f,g,i,v,j,d⟩:=h;exact⟨a.set,e.other (by simp),f.other (by simp),g.other (by simp),(Below.heap_setCell _ _ _ _ (by simp)).trans i,v,(Below.heap_setCell _ _ _ _ (by simp)).trans j,ownsRow_setCell_other d (Xd6 (b:=B+5) (t:=3) d a (by decide)) _⟩
theorem RG.setCount {B fr tt pf b c:Nat}{xs:List Nat}{w:World}(h:RG B fr tt pf b c xs w)(c':Nat):RG B fr tt pf b c' xs (w.setCell ⟨B+6,0,none⟩ (.int .i64 c')):=by obtain⟨e,f,a,g,i,v,j,d⟩:=h;exact⟨e.other (by simp),f.other (by simp),a.set,g.other (by simp),(Below.heap_setCell _ _ _ _ (by simp)).trans i,v,(Below.heap_setCell _ _ _ _ (by simp)).trans j,ownsRow_setCell_other d (Xd6 (b:=B+6) (t:=3) d a (by decide)) _⟩
theorem RG.drew {B fr tt pf b c:Nat}{xs:List Nat}{w:World}(h:RG B fr tt pf b c xs w):RG B fr tt pf b c xs w.drew:=⟨h.1,h.2,h.3,h.4,h.5,h.6⟩
theorem RG.below {B fr tt pf b c:Nat}{xs:List Nat}{w w':World}(h:RG B fr tt pf b c xs w)(hb:Bw w w'):RG B fr tt pf b c xs w':=by
 obtain⟨d,e,f,i,j,v,k,l⟩:=h;refine⟨d.same (hb.block _ (zY d)),e.same (hb.block _ (zY e)),f.same (hb.block _ (zY f)),i.same (hb.block _ (zY i)),(hb.block _ (zY j)).trans j,v,(hb.block _ (zY k)).trans k,l.1,?_⟩;rcases l.2 with h|⟨g,cap,a,hv,n,m,r⟩;·exact .inl h
 exact .inr ⟨g,cap,a,hv,n,(hb.block _ (zY m)).trans m,r⟩
theorem RG.passed {B fr tt pf b c:Nat}{xs:List Nat}{z:Nat}{w w':World}{v:Value}(h:RG B fr tt pf b c xs w)(hown:w.ownsRow B 5 1 v xs.length (xs.map U)) (hn:∃v',w'.heap[B+1]?=some (.cells #[v'] 82 (0,0))∧w'.ownsRow B 5 1 v' (xs.length+1) ((xs++[z]).map U)) (hf:Frame1 B (B+1) v w w'):RG B fr tt pf b c (xs++[z]) w':=by
 obtain⟨a,d,e,f,g,_⟩:=h;exact⟨a.same (hf.other _ (zY a) (by omega) (Xd6 (t:=3) hown a (by decide))),d.same (hf.other _ (zY d) (by omega) (Xd6 (t:=3) hown d (by decide))),e.same (hf.other _ (zY e) (by omega) (Xd6 (t:=3) hown e (by decide))),f.same (hf.other _ (zY f) (by omega) (Xd6 (t:=3) hown f (by decide))),
  (hf.other _ (zY g) (by omega) (Xd6 hown g (by decide))).trans g,by rw[List.length_append];exact hn⟩
theorem Yo1 (w0 w:World)(B fr tt bits count g:Nat)(f:Nat→Nat)(xs:List Nat)(h:RG B fr tt 231 bits count xs w)(hb:Below B w0 w)(hp:Xvi w0 B 231 (2^tt) f) (hfr:fr≤8) (htt:1≤tt) (htt8:tt≤8) (hc:count<tt) (hbits:bits<2^count) (hg:g<2^fr) (O:xs.length≤900000):Calls prog 261 #[.int .i64 g,.pointer (some ⟨B+5,0,none⟩),.pointer (some ⟨B+2,0,none⟩),.pointer (some ⟨B+6,0,none⟩),.pointer (some ⟨B+3,0,none⟩),.pointer (some ⟨B+4,0,none⟩)] w fun e w'=>
     e=.returned (.tuple #[])∧Below B w0 w'∧KM w w'∧∃b c ys,Xb6 f tt 16 (bits*2^fr+g) (count+fr) xs=(b,c,ys)∧RG B fr tt 231 b c ys w':=by
 have c5:=cell_of_one h.bBits;have c2:=cell_of_one h.bFrom;have c6:=cell_of_one h.bCount;have f5:=free_of_one h.bBits;have f6:=free_of_one h.bCount;have P:2^count≤2^8:=Nat.pow_le_pow_right (by omega) (by omega);have Q:2^fr≤2^8:=Nat.pow_le_pow_right (by omega) (by omega);have D:=Xjk hbits hg;have b1:bits<256:=by omega
 have b2:g<256:=by omega
 obtain⟨x,L⟩:=xq (bits*2^fr+g);obtain⟨y,R⟩:=xq (count+fr);have H:y<16:=by omega
 have ey:(count:Int)+(fr:Int)=(y:Int):=by omega
 have e0:Go.bits .or .i64 (wrap64 ((bits:Int)*2^fr)) (g:Int)=(x:Int):=by rw[L];exact Xue bits fr g b1 hfr hg
 have r0:RG B fr tt 231 x y xs (((w.setCell ⟨B+5,0,none⟩ (.int .i64 (x:Int))).setCell ⟨B+6,0,none⟩ (.int .i64 (y:Int))).drew):=((h.setBits _).setCount _).drew;have q0:Below B w0 (((w.setCell ⟨B+5,0,none⟩ (.int .i64 (x:Int))).setCell ⟨B+6,0,none⟩ (.int .i64 (y:Int))).drew):=((hb.setCell (by simp) _).setCell (by simp) _).drew;have V:x<2^y:=by rw[L,R];exact D
 rw[←L,←R];have k0:KM w (((w.setCell ⟨B+5,0,none⟩ (.int .i64 (x:Int))).setCell ⟨B+6,0,none⟩ (.int .i64 (y:Int))).drew):=((KM.setCell h.bBits 0 _).trans (KM.setCell (h.setBits x).bCount 0 _)).drew;have K0:=Hd k0;clear k0;have HP:=Hd hp;have R0:=Hd r0;have Q0:=Hd q0;have BD:=Hd V;clear hp h hb P Q r0 q0 V hbits hg L R D;go_enter func261,ntmps261;go_wp2_with fail;go_region;all_goals go_wp2_with fail
 go_loopg [] 16 (fun k wr=>∃b c ys,RG B fr tt 231 b c ys wr∧Below B w0 wr∧KM w wr∧b<2^c∧c≤k∧c<16∧ys.length+c≤900000+16∧Xb6 f tt k b c ys=Xb6 f tt 16 x y xs);exact⟨x,y,xs,R0.o,Q0.o,K0.o,BD.o,by omega,H,by omega,rfl⟩;obtain⟨b,c,ys,l,K,G,m,aC,aA,aB,p⟩:=hrel;obtain⟨v,hv,j⟩:=l.txt;have k5:=cell_of_one l.bBits;have k3:=cell_of_one l.bTo;have k6:=cell_of_one l.bCount;have k4:=cell_of_one l.bPass;have l5:=free_of_one l.bBits;have l6:=free_of_one l.bCount;clear e0 c5 c2 c6 f5 f6;have C:=Hd G;clear G;by_cases hlt:c<tt;·have HR:=Hd l;have HQ:=Hd K;have M:=Hd p;clear l K p hv j m;go_wp2_with fail;go_end0;refine⟨rfl,HQ.o,C.o,b,c,ys,?_,HR.o⟩;rw[←M.o];cases gk<;>simp[Xb6,hlt]
 obtain⟨d,hd⟩:=xq (c-tt);obtain⟨q,s⟩:=xq (b/2^d);have ed:(c:Int)-(tt:Int)=(d:Int):=by omega
 have eq:(b:Int)/2^d=(q:Int):=by rw[s];push_cast;rfl
 have F:d<16:=by omega
 obtain⟨r,z⟩:=xq (b%2^d);have E:b<65536:=Nat.lt_of_lt_of_le m (Nat.pow_le_pow_right (n:=2) (by omega) (show c≤16 by omega));have J:Go.bits .and .i64 (b:Int) (wrap64 (wrap64 (2^d)-1))=(r:Int):=by rw[z];exact Xq1 b d E (by omega)
 have EM:=Hd J;have W:=Hd z;clear J z;have u:q<2^tt:=by
  rw[s];apply Nat.div_lt_of_lt_mul;rw[←Nat.pow_add];have:d+tt=c:=by omega
  rw[this];exact m
 have r1:=l.setCount d;have T:Below B w0 (wr.setCell ⟨B+6,0,none⟩ (.int .i64 (d:Int))):=K.setCell (by simp) _;have A:ys.length≤1000000:=by omega
 have S:=(ownsRow_setCell_other (a:=⟨B+6,0,none⟩) j (Xd6 (b:=B+6) (t:=3) j l.bCount (by decide)) (.int .i64 (d:Int))).drew;have P1:=Hd (HP.o (wr.setCell ⟨B+6,0,none⟩ (.int .i64 (d:Int))).drew v ys q T.drew ((Below.heap_setCell _ _ _ _ (by simp)).trans hv) S A u);have U:=Hd S;have K1:=Hd (KM.setCell l.bCount 0 (.int .i64 (d:Int)));have V1:Hid ((wr.setCell ⟨B+6,0,none⟩ (.int .i64 (d:Int))).drew.heap[B+1]?=some (.cells #[v] 82 (0,0))):=(Below.heap_setCell _ _ _ _ (by simp)).trans hv;have I:=Hd r1;have M:=Hd p;have Q1:=Hd T;have X:=Hd s;have Y:=Hd hd;have Z:=Hd m;clear l K p hv j m r1 T s hd u S;go_wp2_with fail
 go_region_held3 (fun w'=>w'.cell? ⟨B+4,0,none⟩=some (.func (.func 231) #[] #[.pointer (some ⟨B+1,0,none⟩)])∧w'.cell? ⟨B+5,0,none⟩=some (.int .i64 (b:Int))∧w'.cell? ⟨B+6,0,none⟩=some (.int .i64 (d:Int)))
  (first|exact⟨cell_of_one I.o.drew.bPass,cell_of_one I.o.drew.bBits,cell_of_one I.o.drew.bCount⟩|exact⟨cell_of_one i.o.bPass,cell_of_one i.o.bBits,cell_of_one i.o.bCount⟩)
  (first|(go_at_call 231;refine(P1.o).mono ?_;rintro e w2 ⟨rfl,O,N⟩;have i:=Hd (RG.passed I.o.drew U.o O N);clear O))
 all_goals (have k5:=cell_of_one i.o.bBits;have k6:=cell_of_one i.o.bCount;have l5:=free_of_one i.o.bBits;have J:=EM.o)
 all_goals go_wp2_with fail
 all_goals go_region
 all_goals go_wp2_with fail
 all_goals clear J
 all_goals go_roundg (gk-1)
 case measure=>omega
 case rel=>
  refine⟨r,d,ys++[f q],(i.o.setBits r).drew,(((Q1.o.drew.trans N.below).setCell (by simp) _).drew),?_,?_,by omega,F,by simp;omega,?_⟩;·exact(((C.o.trans K1.o).drew.trans (N.km V1.o U.o)).trans (KM.setCell i.o.bBits 0 _)).drew
  ·rw[W.o];exact Nat.mod_lt _ (Nat.pow_pos (by omega))
  rw[←M.o];obtain⟨k',rfl⟩:∃k',gk=k'+1:=⟨gk-1,by omega⟩
  rw[Xew _ _ _ _ _ _ hlt,←Y.o,←W.o,←X.o];rfl
theorem Xgl:(prog.info? 5).map (fun i=>(i.zero,i.size,i.bytes))=some (some (.int .u8 0),1,1):=by kernel_rfl
theorem Yoy (w:World)(Bt g base al:Nat)(v:Value)(xs:List Nat) (hT:w.heap[Bt]?=some (.cells #[v] 82 (0,0))) (hown:w.ownsRow base 5 1 v xs.length (xs.map U)) (hbase:base≤w.heap.size) (hBt:base≤Bt) (hn:xs.length≤1000000) (hg:g<64) (ha:w.cell? ⟨3,g,none⟩=some (U al)):Calls prog 231 #[.int .i64 g,.pointer (some ⟨Bt,0,none⟩)] w fun e w'=>e=.returned (.tuple #[])∧
     (∃v',w'.heap[Bt]?=some (.cells #[v'] 82 (0,0))∧w'.ownsRow base 5 1 v' (xs.length+1) ((xs++[al]).map U))∧Frame1 base Bt v w w':=by
 obtain⟨u,k,l,m,n⟩:=info_parts Xgl;have B:=cell_of_one hT;have C:=free_of_one hT;have lt:=zY hT;have y:(0:Int)≤(g:Int):=Int.natCast_nonneg _;have z:(g:Int)<64:=by omega
 have h:v.ownBlock≠some Bt:=Xd6 hown hT (by decide);have f:(w.drew.alloc (.cells #[U al] 5)).heap[Bt]?=some (.cells #[v] 82 (0,0)):=Xad hT;have x:=Hd hT;have d:=Hd f;have j:=Hd h;clear hT f h;unfold U at ha d;go_enter func231,ntmps231;go_wp2_with fail;go_region_law
  ((refine step_append_lies _ (by rfl) _ _ _ (by rfl) base 5 u _ 1 1 underlying82 k l m n rfl (by omega) v xs.length (xs.map U) (by rfl) ((hown.drew).alloc _)
      ⟨w.heap.size,0,none⟩ 1 1 [.int .u8 al] (by rfl) (by rfl) (World.news_of_block (cs:=#[.int .u8 al]) (t:=5) (fr:=(0,0)) (zN w _)) (by simp[Value.oneCell'])
      (by omega) (by unfold maxLen;omega) (by omega) (by simp;omega) (w.heap.size+1) (by simp) ?_;intro A cap w1 c a p s;have b:=Xdh a d.o j.o;have q:=cell_of_one b;have r:=free_of_one b;have i:=Hd b;clear b))
 all_goals go_end0
 all_goals (refine⟨rfl,?_⟩;rw[List.map_append];exact Xlf c a (((zR _ _).alloc (zL _) _).drew) i.o (by decide) hBt hbase hown)
theorem Xka (w:World)(a b pf Bt B:Nat)(hB:w.heap.size=B+2):Calls prog 230 #[.int .i64 a,.int .i64 b,.func (.func pf) #[] #[.pointer (some ⟨Bt,0,none⟩)]] w fun e w'=>
     e=.returned (.tuple #[.func (.func 261) #[] #[.pointer (some ⟨B+5,0,none⟩),.pointer (some ⟨B+2,0,none⟩),.pointer (some ⟨B+6,0,none⟩),.pointer (some ⟨B+3,0,none⟩),.pointer (some ⟨B+4,0,none⟩)],
      .func (.func 262) #[] #[.pointer (some ⟨B+5,0,none⟩),.pointer (some ⟨B+6,0,none⟩)]])∧
     w'=((((w.alloc (.cells #[.int .i64 a] 3)).alloc (.cells #[.int .i64 b] 3)).alloc (.cells #[.func (.func pf) #[] #[.pointer (some ⟨Bt,0,none⟩)]] 183)).alloc (.cells #[.int .i64 0] 3)).alloc (.cells #[.int .i64 0] 3):=by
 have c:=Hd hB;clear hB;go_enter func230,ntmps230;go_wp2_with fail;go_ret2;refine⟨?_,rfl⟩;simp[c.o]
theorem Xum (w:World)(B fr tt pf b c:Nat)(xs:List Nat)(h:RG B fr tt pf b c xs w):Calls prog 262 #[.pointer (some ⟨B+5,0,none⟩),.pointer (some ⟨B+6,0,none⟩)] w fun e w'=>e=.returned (.tuple #[.int .i64 b,.int .i64 c])∧∃n,w'=w.drewN n:=by have a:=cell_of_one h.bBits;have d:=cell_of_one h.bCount;clear h;go_enter func262,ntmps262;go_wp2_with fail;go_quiet (fail);go_wp2_with fail;go_ret2;exact⟨rfl,_,rfl⟩
def Ydt (n:Int):Int:=if n<0∨131072<n then 0 else(n+2)/3*4
theorem Xo8 {n:Int}(h:n<0∨131072<n):Ydt n=0:=qP h
theorem Yds {n:Int}(h:¬(n<0∨131072<n)):Ydt n=(n+2)/3*4:=qN h
theorem Xtu (w:World)(n:Int)(h0:-9223372036854775808≤n)(h1:n≤9223372036854775807):Rx 247 #[.int .i64 n] w (.int .i64 (Ydt n)):=by
 by_cases ha:n<0
 ·go_enter func247,ntmps247;go_wp2;all_goals go_ret
  all_goals exact⟨by rw[Xo8 (.inl ha)];rfl,rfl⟩
 by_cases hb:131072<n
 ·go_enter func247,ntmps247;go_wp2;all_goals go_ret
  all_goals exact⟨by rw[Xo8 (.inr hb)];rfl,rfl⟩
 go_enter func247,ntmps247;go_wp2;all_goals go_ret
 all_goals exact⟨by rw[Yds (by omega)];rfl,rfl⟩
theorem Xer {w:World}{base e size n:Nat}{v:Value}{xs:List Value}(h:w.ownsRow base e size v n xs):∃a cap,v=.slice a n cap:=by
 rcases h.2 with⟨rfl,rfl⟩|⟨g,cap,cur,rfl,_⟩;·exact⟨none,0,rfl⟩
 exact⟨some ⟨g,0,none⟩,cap,rfl⟩
theorem Xnb (ys:List Nat):strOfNums (ys.map fun n:Nat=>(n:Int))=Xax ys:=by unfold strOfNums Xax;simp[Function.comp_def]
theorem Xmu {P:Program}(w:World)(src e dst:TypeId)(hs:P.underlying src=some (.slice e))(he:P.underlying e=some (.int .u8))(hd:P.underlying dst=some .string)(b off cap:Nat)(ys:List Nat) (hcell:∀i (h:i<ys.length),w.cell? ⟨b,off+i,none⟩=some (U ys[i])):(convert src dst (.slice (some ⟨b,off,none⟩) ys.length cap)).run P w=.ok (.string (Xax ys)) w:=by rw[←Xnb];refine run_convert_bytes_arg w src e hs he b off ys.length cap _ (by simp) ?_ dst hd;intro i hi;rw[hcell i hi];simp[U,List.getD,List.getElem?_eq_getElem hi]
theorem Xnu {P:Program}{w:World}{base e:Nat}{v:Value}{n:Nat}{ys:List Nat}(src dst:TypeId)(hs:P.underlying src=some (.slice e))(he:P.underlying e=some (.int .u8))(hd:P.underlying dst=some .string) (h:w.ownsRow base e 1 v n (ys.map U)):(convert src dst v).run P w=.ok (.string (Xax ys)) w:=by
 have a:ys.length=n:=by simpa using h.1
 subst a;rcases h.2 with⟨rfl,h0⟩|⟨g,cap,cur,rfl,_⟩;·obtain rfl:ys=[]:=List.eq_nil_of_length_eq_zero h0;exact run_convert_bytes_nil w src e hs he 0 0 dst hd
 refine Xmu w src e dst hs he hd g 0 cap ys ?_;intro i hi;rw[Nat.zero_add,h.cellAt i (by omega),List.getElem?_map,List.getElem?_eq_getElem hi];rfl
theorem Xcc {P:Program}(w:World){ops:Array Oper}{rest:List Oper}{o:Oper}{a:Act}{Q:Exit→Act→World→Prop} (hg:o.guard=none) (l c:Operand) (t:TypeId) (hop:o.op=Op.makeSlice t l c) (e:TypeId) (i:TypeInfo) (z:Value) (size:Nat) (h1:P.underlying t=some (.slice e)) (h2:P.info? e=some i) (h3:i.zero=some z) (h4:i.size=size) (kl kc:IntKind) (L C:Int) (m n:Nat) (hl:a.eval l=.int kl L) (hc:a.eval c=.int kc C) (hL:L=(m:Int)) (hC:C=(n:Int)) (hmn:m≤n) (b2:i.bytes*n≤281474976710656) (b3:n≤maxLen) (hK:∀cs,cs.size=n*size→wpList P ops Q rest (a.put o.dst (.slice (some ⟨w.heap.size,0,none⟩) m n)) (w.alloc (.cells cs e))):wpList P ops Q (o::rest) a w:=by
 refine wpList_plain hg fun K hK'=>?_;have b:=run_make (P:=P) w t e i z h1 h2 h3 kl kc m n (by omega) (by omega) (by
  have h:((i.bytes*n:Nat):Int)≤281474976710656:=by omega
  rwa [Int.natCast_mul] at h) (by unfold maxLen at b3;omega)
 subst hL;subst hC;simp only[Int.toNat_natCast] at b;unfold Oper.wp;simp[execOp,hop,hl,hc,b,Result.andThen];exact hK' _ _ (hK _ (by rw[←h4];exact size_madeCells _ _))
structure Tab (w:World):Prop where
 size:3<w.heap.size
 cell:∀g,g<64→w.cell? ⟨3,g,none⟩=some (U (al g))
theorem Tab.below {B:Nat}{w w':World}(h:Tab w)(hb:Below B w w')(hB:3<B):Tab w':=⟨Nat.lt_of_lt_of_le h.size hb.size,fun g hg=>(hb.cell (by exact hB)).trans (h.cell g hg)⟩
theorem Yei (w0:World)(B:Nat)(ht:Tab w0)(hB:3<B)(hs:B≤w0.heap.size):Xvi w0 B 231 (2^6) al:=by intro w v xs g b c a d e;exact Yoy w (B+1) g B (al g) v xs c a (Nat.le_trans hs b.size) (by omega) d (by omega) ((ht.below b hB).cell g (by omega))
theorem Xt5 (w:World)(cs:Array Value)(n fr tt pf:Nat)(hn:n≤maxLen)(hcs:cs.size=n*1):RG w.heap.size fr tt pf 0 0 [] ((((((((w.alloc (.cells cs 5)).alloc (.cells #[.slice (some ⟨w.heap.size,0,none⟩) 0 n] 82)).alloc (.cells #[.int .i64 fr] 3)).alloc (.cells #[.int .i64 tt] 3)).alloc (.cells #[.func (.func pf) #[] #[.pointer (some ⟨w.heap.size+1,0,none⟩)]] 183)).alloc (.cells #[.int .i64 0] 3)).alloc (.cells #[.int .i64 0] 3))):=by
 have b:∀(u:World) (o:Obj),(u.alloc o).heap.size=u.heap.size+1:=fun u o=>by simp
 have a:=World.ownsRow_made (base:=w.heap.size) (e:=5) (size:=1) w cs n (zL _) hn hcs;have new:∀(u:World) (o:Obj) (k:Nat),u.heap.size=k→(u.alloc o).heap[k]?=some o:=fun u o k h=>by rw[←h];exact zN u o
 refine⟨Xad (new _ _ _ (by simp)),?_,new _ _ _ (by simp),?_,?_,.slice (some ⟨w.heap.size,0,none⟩) 0 n,?_,((((((a.alloc _).alloc _).alloc _).alloc _).alloc _).alloc _)⟩;·exact Xad (Xad (Xad (Xad (new _ _ _ (by simp)))))
 ·exact Xad (Xad (Xad (new _ _ _ (by simp))))
 ·exact Xad (Xad (new _ _ _ (by simp)))
 exact Xad (Xad (Xad (Xad (Xad (new _ _ _ (by simp))))))
theorem Xld (w:World)(o1 o2 o3 o4 o5 o6 o7:Obj):Bw w (((((((w.alloc o1).alloc o2).alloc o3).alloc o4).alloc o5).alloc o6).alloc o7):=by refine Below.alloc (Below.alloc (Below.alloc (Below.alloc (Below.alloc (Below.alloc (Below.alloc (zR _ _) ?_ _) ?_ _) ?_ _) ?_ _) ?_ _) ?_ _) ?_ _<;>simp<;>omega
def Xgf (c:Nat):Nat:=if c≤127 then 1 else if c<194 then 0 else if c≤223 then 2 else if c≤239 then 3 else if c≤244 then 4 else 0
def Xgv (f i c:Nat):Bool:=
 decide ((if i=1∧f=224 then 160 else if i=1∧f=240 then 144 else 128)≤c)&&decide (c≤(if i=1∧f=237 then 159 else if i=1∧f=244 then 143 else 191))
theorem Xjv (c:Nat):Xgf c≤4:=by unfold Xgf;(repeat' split)<;>omega
theorem Ydk {f i c:Nat}(h:Xgv f i c=true):128≤c∧c≤191:=by
 unfold Xgv at h;simp at h;obtain⟨a,b⟩:=h;constructor;·split at a<;>(try split at a)<;>omega
 split at b<;>(try split at b)<;>omega
def Xb8 (l:List Nat):Bool:=
 decide (Xgf (l.getD 0 0)≠0)&&decide (Xgf (l.getD 0 0)≤l.length)&&(List.range 3).all (fun i=>decide (Xgf (l.getD 0 0)≤i+1)||Xgv (l.getD 0 0) (i+1) (l.getD (i+1) 0))
def rn (l:List Nat):Nat:=if Xb8 l=true then Xgf (l.getD 0 0) else 0
theorem Xcd (l:List Nat):Xb8 l=true↔Xgf (l.getD 0 0)≠0∧Xgf (l.getD 0 0)≤l.length∧∀i,1≤i→i<Xgf (l.getD 0 0)→Xgv (l.getD 0 0) i (l.getD i 0)=true:=by
 have d:=Xjv (l.getD 0 0);unfold Xb8;simp only[Bool.and_eq_true,decide_eq_true_eq,List.all_eq_true,List.mem_range,Bool.or_eq_true];constructor
 ·rintro⟨⟨a,b⟩,c⟩;refine⟨a,b,fun i h1 h2=>?_⟩;have:=c (i-1) (by omega);rw[show i-1+1=i by omega] at this;rcases this with h|h;·omega
  exact h
 rintro⟨a,b,c⟩;refine⟨⟨a,b⟩,fun i hi=>?_⟩;by_cases h:Xgf (l.getD 0 0)≤i+1;·exact .inl h
 exact .inr (c (i+1) (by omega) (by omega))
theorem Xja (l:List Nat)(h:¬(Xgf (l.getD 0 0)≠0∧Xgf (l.getD 0 0)≤l.length∧∀i,1≤i→i<Xgf (l.getD 0 0)→Xgv (l.getD 0 0) i (l.getD i 0)=true)):Xb8 l=false:=by rw[←Xcd] at h;simpa using h
theorem Xrl (l:List Nat):rn l≤l.length∧rn l≤4:=by
 unfold rn;split;·rename_i h;have:=(Xcd l).1 h;exact⟨this.2.1,Xjv _⟩
 omega
theorem Xj8 {l:List Nat}(h:Xb8 l=false):rn l=0:=by unfold rn;rw[h];rfl
theorem Xfq {l:List Nat}(h:Xb8 l=true):rn l=Xgf (l.getD 0 0)∧0<rn l:=by have:=(Xcd l).1 h;unfold rn;rw[qP h];omega
theorem rn_ne {l:List Nat}:rn l≠0↔Xb8 l=true:=by
 constructor
 ·intro h;cases hw:Xb8 l;·exact absurd (Xj8 hw) h
  rfl
 intro h;have:=Xfq h;omega
def Ykz:Nat→List Nat→Bool
 |0,l=>l.isEmpty
 |k+1,l=>if l.isEmpty then true else(decide (rn l≠0)&&Ykz k (l.drop (rn l)))
def vld (l:List Nat):Bool:=Ykz l.length l
theorem Yh2:∀(n:Nat) (l:List Nat) (k:Nat),l.length≤n→l.length≤k→Ykz k l=Ykz l.length l:=by
 intro n
 induction n with
 |zero=>intro l k c b;have:l=[]:=List.length_eq_zero_iff.1 (by omega);subst this;cases k<;>rfl
 |succ n ih=>
  intro l k c b
  cases l with
  |nil=>cases k<;>rfl
  |cons a l=>
   cases k with
   |zero=>simp at b
   |succ k=>
    rw[List.length_cons];simp only[Ykz];by_cases h0:rn (a::l)=0;·simp[h0]
    have d:((a::l).drop (rn (a::l))).length≤l.length:=by simp;omega
    have f:l.length≤n:=by simpa using c
    have e:l.length≤k:=by simpa using b
    rw[ih _ k (by omega) (by omega),ih _ l.length (by omega) (by omega)]
theorem Xm9 {l:List Nat}(h:l≠[]):vld l=(decide (rn l≠0)&&vld (l.drop (rn l))):=by
 cases l with
 |nil=>exact absurd rfl h
 |cons a l=>
  unfold vld;rw[List.length_cons];simp only[Ykz];by_cases h0:rn (a::l)=0;·simp[h0]
  rw[Yh2 l.length _ l.length (by simp;omega) (by simp;omega)];simp
def cpt (l:List Nat):Nat:=
 ((l.take (rn l)).drop 1).foldl (fun r x=>r*64+x%64) (if rn l≤1 then l.getD 0 0 else l.getD 0 0%2^(7-rn l))
def Xu8 (r:Nat):Bool:=decide (r<32)||(decide (127≤r)&&decide (r≤159))||decide (r=8232)||decide (r=8233)
def rsN:Nat→Nat→List Nat→List (Nat×Nat)
 |0,_,_=>[]
 |k+1,at',l=>if rn l=0 then[] else(at',cpt l)::rsN k (at'+rn l) (l.drop (rn l))
def rns (l:List Nat):List (Nat×Nat):=rsN l.length 0 l
def gd (t:Bool)(r:Nat):Bool:=!Xu8 r||(t&&decide (r=9))
def Xhz (t:Bool)(l:List Nat):Bool:=vld l&&(rns l).all fun x=>gd t x.2
theorem Yg9:rn []=0:=rfl
theorem Yg5:∀(n:Nat) (l:List Nat) (k a:Nat),l.length≤n→l.length≤k→rsN k a l=rsN l.length a l:=by
 intro n
 induction n with
 |zero=>intro l k a c b;have:l=[]:=List.length_eq_zero_iff.1 (by omega);subst this;cases k<;>rfl
 |succ n ih=>
  intro l k a c b
  cases l with
  |nil=>cases k<;>rfl
  |cons x l=>
   cases k with
   |zero=>simp at b
   |succ k=>
    rw[List.length_cons];simp only[rsN];by_cases h0:rn (x::l)=0;·simp[h0]
    have d:((x::l).drop (rn (x::l))).length≤l.length:=by simp;omega
    have f:l.length≤n:=by simpa using c
    have e:l.length≤k:=by simpa using b
    rw[ih _ k _ (by omega) (by omega),ih _ l.length _ (by omega) (by omega)]
theorem Xnp (k a:Nat)(l:List Nat)(h:rn l≠0)(hk:l.length≤k):rsN k a l=(a,cpt l)::rsN (l.drop (rn l)).length (a+rn l) (l.drop (rn l)):=by
 have b:=(Xrl l).1;rw[Yg5 l.length l k a (zL _) hk]
 cases l with
 |nil=>exact absurd Yg9 h
 |cons x l=>rw[List.length_cons];simp only[rsN];rw[qN h,Yg5 l.length _ l.length _ (by simp;omega) (by simp;omega)]
theorem Xno (k a:Nat)(l:List Nat)(h:rn l=0):rsN k a l=[]:=by
 cases k with
 |zero=>rfl
 |succ k=>simp only[rsN];rw[qP h]
theorem Xy7:∀(k a:Nat) (l:List Nat),(rsN k a l).length≤k
 |0,_,_=>zL _
 |k+1,a,l=>by
  simp only[rsN];split;·simp
  have:=Xy7 k (a+rn l) (l.drop (rn l));simp;omega
def dbl:List Nat→Bool
 |a::b::t=>(decide (a=32)&&decide (b=32))||dbl (b::t)
 |_=>false
def sqz (l:List Nat):Bool:=!decide (l.head?=some 32)&&!decide (l.getLast?=some 32)&&!dbl l
def fe (a b:Nat):Nat:=if a≠0 then a else b
def eIf (p:Bool)(e:Nat):Nat:=if p=true then e else 0
def Xfl (l:List Nat)(most:Nat):Nat:=fe (eIf (decide (most<l.length)) 5) (fe (eIf (!Xhz false l) 6) (eIf (!sqz l) 3))
def spl (c:Nat):List Nat→List (List Nat)
 |[]=>[[]]
 |x::t=>if x=c then[]::spl c t else match spl c t with
  |[]=>[[x]]
  |h::r=>(x::h)::r
theorem Xjz (c:Nat)(l:List Nat):spl c l≠[]:=by
 cases l with
 |nil=>simp[spl]
 |cons x t=>
  simp only[spl];split;· simp
  split<;>simp
def low (c:Nat):Bool:=decide (97≤c)&&decide (c≤122)
def dig (c:Nat):Bool:=decide (48≤c)&&decide (c≤57)
def nmC (c:Nat):Bool:=low c||dig c||decide (c=45)||decide (c=43)||decide (c=95)
def Xej (l:List Nat):Bool:=!l.isEmpty&&decide (l.length≤20)&&low (l.getD 0 0)&&l.all nmC
def Xbo (l:List Nat):Nat:=if 80<l.length then 5 else if(spl 46 l).any (fun p=>!Xej p)=true then 12 else if 10<(spl 46 l).length then 9 else 0
def Xc6 (f:List Nat→Nat)(d:Nat):List (List Nat)→List (List Nat)→Nat
 |_,[]=>0
 |pre,x::r=>if f x≠0 then f x else if pre.contains x=true then d else Xc6 f d (pre++[x]) r
def Xcy (f:List Nat→Nat)(l:List (List Nat)):Nat:=if 20<l.length then 9 else Xc6 f 7 [] l
def Xco (l:List (List Nat)):Nat:=if l=[] then 4 else Xcy Xbo l
def zero32:List Nat:=List.replicate 32 0
def Xgi (l:List (List Nat)):Nat:=Xcy (fun x=>if x=zero32 then 1 else 0) l
def Xk4 (l:List Nat):Nat:=fe (eIf (decide (20<l.length)) 5) (eIf (l.any fun c=>!low c&&!dig c&&!decide (c=45)) 6)
def Xff (l:List Nat):List Nat:=l.takeWhile (fun c=>!decide (c=10))
def Xoi:Nat→List Nat→Nat
 |0,_=>0
 |k+1,l=>if l=[] then 0 else if(Xff l).length=l.length then 4 else if 998<(Xff l).length then 5 else if Xhz true (Xff l)=false then 6 else Xoi k (l.drop ((Xff l).length+1))
def Xfy (l:List Nat):Nat:=Xoi l.length l
def hxl (k:Nat):Nat:=if k<10 then 48+k else 87+k
def Xb5 (l:List Nat):List Nat:=l.flatMap fun b=>[hxl (b/16),hxl (b%16)]
def hvl (c:Nat):Option Nat:=if 48≤c∧c≤57 then some (c-48) else if 97≤c∧c≤102 then some (c-87) else none
def Xlm:List Nat→Option (List Nat)
 |[]=>some []
 |[_]=>none
 |a::b::t=>match hvl a,hvl b,Xlm t with
  |some x,some y,some r=>some ((16*x+y)::r)
  |_,_,_=>none
def sHash:List Nat:=[64,104,97,115,104,62]
def Xfi (id:List Nat):List Nat:=60::Xb5 id++sHash
def Xlj (x:List Nat):Option (List Nat):=if x.length=71∧x.getD 0 0=60∧x.drop 65=sHash then Xlm ((x.drop 1).take 64) else none
def Xfz (x:List Nat):Option (List Nat):=if x.length=32 then Xlm x else none
def Xba (a b:Nat):Nat:=(a+b)%4294967296
def Xr0 (a:Nat):Nat:=4294967295-a
def Xdq (a n:Nat):Nat:=(a*2^n)%4294967296
def rot (x n:Nat):Nat:=Xdq x (32-n)|||x/2^n
structure W8 where
 a:Nat
 b:Nat
 c:Nat
 d:Nat
 e:Nat
 f:Nat
 g:Nat
 i:Nat
def shK:List Nat:=[1116352408,1899447441,3049323471,3921009573,961987163,1508970993,2453635748,2870763221,3624381080,310598401,607225278,1426881987,1925078388,2162078206,2614888103,3248222580,3835390401,4022224774,264347078,604807628,770255983,1249150122,1555081692,1996064986,2554220882,2821834349,2952996808,3210313671,3336571891,3584528711,113926993,338241895,666307205,773529912,1294757372,1396182291,1695183700,1986661051,2177026350,2456956037,2730485921,2820302411,3259730800,3345764771,3516065817,3600352804,4094571909,275423344,430227734,506948616,659060556,883997877,958139571,1322822218,1537002063,1747873779,1955562222,2024104815,2227730452,2361852424,2428436474,2756734187,3204031479,3329325298]
def sh0:W8:=⟨1779033703,3144134277,1013904242,2773480762,1359893119,2600822924,528734635,1541459225⟩
def Yd0 (v:W8)(k w:Nat):Nat:=Xba (Xba (Xba (Xba v.i (rot v.e 6^^^rot v.e 11^^^rot v.e 25)) ((v.e&&&v.f)^^^(Xr0 v.e&&&v.g))) k) w
def Yg8 (v:W8):Nat:=Xba (rot v.a 2^^^rot v.a 13^^^rot v.a 22) ((v.a&&&v.b)^^^(v.a&&&v.c)^^^(v.b&&&v.c))
def rnd (v:W8)(k w:Nat):W8:=⟨Xba (Yd0 v k w) (Yg8 v),v.a,v.b,v.c,Xba v.d (Yd0 v k w),v.e,v.f,v.g⟩
def Xgz (x y:W8):W8:=⟨Xba x.a y.a,Xba x.b y.b,Xba x.c y.c,Xba x.d y.d,Xba x.e y.e,Xba x.f y.f,Xba x.g y.g,Xba x.i y.i⟩
def Ynl (w:List Nat)(t:Nat):Nat:=
 Xba (w.getD (t%16) 0) (Xba (Xba (rot (w.getD ((t-15)%16) 0) 7^^^rot (w.getD ((t-15)%16) 0) 18^^^w.getD ((t-15)%16) 0/2^3) (rot (w.getD ((t-2)%16) 0) 17^^^rot (w.getD ((t-2)%16) 0) 19^^^w.getD ((t-2)%16) 0/2^10)) (w.getD ((t-7)%16) 0))
def Xh0 (w:List Nat)(t:Nat):List Nat:=if t<16 then w else w.set (t%16) (Ynl w t)
def Xzs (st:W8×List Nat)(t:Nat):W8×List Nat:=(rnd st.1 (shK.getD t 0) ((Xh0 st.2 t).getD (t%16) 0),Xh0 st.2 t)
def Xns (h:W8)(w:List Nat)(n:Nat):W8×List Nat:=(List.range n).foldl Xzs (h,w)
theorem Xeo (h:W8)(w:List Nat)(n:Nat):Xns h w (n+1)=Xzs (Xns h w n) n:=by simp[Xns,List.range_succ]
def Xgy (h:W8)(w:List Nat):W8:=Xgz h (Xns h w 64).1
def Xp1 (b:List Nat)(w:List Nat)(i:Nat):List Nat:=w.set (i/4) (Xdq (w.getD (i/4) 0) 8|||b.getD i 0)
def Xx2 (b:List Nat)(n:Nat):List Nat:=(List.range n).foldl (Xp1 b) (List.replicate 16 0)
theorem Xkj (b:List Nat)(n:Nat):Xx2 b (n+1)=Xp1 b (Xx2 b n) n:=by simp[Xx2,List.range_succ]
def ldF (b:List Nat):List Nat:=Xx2 b 64
structure Hs where
 st:W8
 blk:List Nat
 len:Nat
def Xcl (h:Hs)(b:List Nat):Hs:=
 let p:=h.len%64;let n:=min (64-p) b.length;let blk:=h.blk.take p++b.take n++h.blk.drop (p+n)
 ⟨if(h.len+n)%64=0 then Xgy h.st (ldF blk) else h.st,blk,h.len+n⟩
def wrN:Nat→Hs→List Nat→Hs
 |0,h,_=>h
 |k+1,h,b=>if b=[] then h else wrN k (Xcl h b) (b.drop (min (64-h.len%64) b.length))
def wrF (h:Hs)(b:List Nat):Hs:=wrN b.length ⟨if h.len=0 then sh0 else h.st,h.blk,h.len⟩ b
def Yhd (len:Nat):Nat:=(119-len%64)%64
def Xrv (len:Nat):List Nat:=128::List.replicate (Yhd len) 0++(List.range 8).map (fun k=>(8*len%18446744073709551616)/2^(56-8*k)%256)
def dgW (x:Nat):List Nat:=(List.range 4).map (fun k=>x/2^(24-8*k)%256)
def dgF (v:W8):List Nat:=[v.a,v.b,v.c,v.d,v.e,v.f,v.g,v.i].flatMap dgW
def hs0:Hs:=⟨⟨0,0,0,0,0,0,0,0⟩,List.replicate 64 0,0⟩
def smF (h:Hs):List Nat:=dgF (wrF h (Xrv h.len)).st
def Xfn (l:List Nat):List Nat:=smF (wrF hs0 l)
def Xiw:Nat→Nat→List Nat
 |0,u=>[48+u%10]
 |k+1,u=>if u<10 then[48+u] else Xiw k (u/10)++[48+u%10]
def Xfh (n:Int):List Nat:=if n<0 then 45::Xiw 20 n.natAbs else Xiw 20 n.toNat
def nxt (t:List Nat)(k:List Nat→List Nat→Nat):Nat:=match t with
 |[]=>4
 |_::u=>k (u.takeWhile fun c=>!decide (c=32)) (u.dropWhile fun c=>!decide (c=32))
def fin (t:List Nat):Nat:=if t=[] then 0 else 5
def Xhx (x:List Nat):Nat:=match Xlj x with|none=>3|some i=>if i=zero32 then 1 else 0
def Xih (x:List Nat):Nat:=if Xbo x=0 then 0 else 12
def Xli (x:List Nat):Option Nat:=if x=[]∨7<x.length∨(1<x.length∧x.getD 0 0=48)∨x.all dig=false then none else some (x.foldl (fun n c=>10*n+(c-48)) 0)
def Xfe (least most:Nat)(x:List Nat):Nat:=match Xli x with|none=>3|some n=>if n<least∨most<n then 2 else 0
def ltL:List Nat→List Nat→Bool
 |a::s,b::t=>decide (a<b)||(decide (a=b)&&ltL s t)
 |[],_::_=>true
 |_,[]=>false
def Xmp:List (List Nat)→Bool
 |a::b::t=>ltL a b&&Xmp (b::t)
 |_=>true
def Xc5 (x:List Nat):Nat:=match (spl 44 x).mapM Xfz with
 |none=>3
 |some l=>if 8<l.length then 9 else if Xmp l=false then 30 else 0
def prC (c:Nat):Bool:=decide (32≤c)&&decide (c≤126)
def Xna (s:List Nat):Nat:=if 200<s.length then 5 else if s.all prC=false then 6 else if s.head?=some 32∨s.getLast?=some 32 then 3 else 0
def Xd3 (t:List Nat):Nat:=match t with
 |[]=>0
 |_::u=>if u=[] then 4 else Xna u
def Xgt:List Nat:=[111,112,101,110]
def Xip:List Nat:=[109,111,100,101,114,97,116,101,100]
def Xhf (x:List Nat):Nat:=
 if(Xcu x).2.2≠0 then(Xcu x).2.2 else if(Xcu x).1.length<17 then 4 else if 17<(Xcu x).1.length then 5
 else if(Xcu x).1.getD 0 0<1∨8<(Xcu x).1.getD 0 0 then 2 else 0
def Xig:List Nat:=[99,97,110,99,101,108]
def Xf6:List Nat:=[97,112,112,114,111,118,101]
def Xif:List Nat:=[100,101,102,105,110,101]
def Xie:List Nat:=[114,101,109,111,118,101]
def Xml:List Nat:=[114,101,107,101,121]
def Xxl (k t:List Nat):Nat:=
 if k=Xig then nxt t fun x t=>fe (Xhx x) (fin t)
 else if k=Xf6 then nxt t fun x t=>fe (Xhx x) (nxt t fun y t=>fe (Xih y) (fin t))
 else if k=Xif then nxt t fun g t=>fe (Xih g) (nxt t fun v t=>fe (Xfe 0 1000000 v) (nxt t fun m t=>
  if m=Xgt then Xd3 t else if m=Xip then nxt t fun a t=>fe (Xc5 a) (Xd3 t) else 3))
 else if k=Xie then nxt t fun g t=>fe (Xih g) (nxt t fun v t=>fe (Xfe 0 1000000 v) (fin t))
 else if k=Xml then nxt t fun n t=>fe (Xfe 1 1000 n) (nxt t fun p t=>fe (Xhf p) (fin t))
 else 11
def Xd4 (s:List Nat):Nat:=if 1000<s.length then 5 else Xxl (s.takeWhile fun c=>!decide (c=32)) (s.dropWhile fun c=>!decide (c=32))
structure Cont where
 name:List Nat
 author:List Nat
 date:Int
 groups:List (List Nat)
 subject:List Nat
 refs:List (List Nat)
 sup:List Nat
 ctl:List Nat
 dist:List Nat
 number:Int
 height:Int
 root:List Nat
 leaf:Int
 body:List Nat
 deriving DecidableEq
def Xx4 (c:Cont):Nat:=if c.ctl=[] then 0 else fe (eIf (!sqz c.ctl) 3) (fe (Xd4 c.ctl) (eIf (!decide (c.sup=zero32)) 11))
def Xau (n:Int):Bool:=decide (1≤n)&&decide (n≤8)
def Xbi (n:Int):Int:=if Xau n=true then 2^n.toNat else 0
def Xe0 (c:Cont):Nat:=
 fe (Xfl c.name 60)<|fe (eIf (decide (c.date<0)||decide (105190559<c.date)) 13)<|fe (Xco c.groups)<|fe (Xfl c.subject 200)<|
 fe (Xgi c.refs)<|fe (Xx4 c)<|fe (Xk4 c.dist)<|fe (eIf (decide (c.number<0)||decide (1000<c.number)) 2)<|
 fe (eIf (!Xau c.height) 2)<|fe (eIf (decide (c.leaf<0)||decide (Xbi c.height≤c.leaf)) 2)<|
 fe (eIf (decide (57344<c.body.length)) 5) (Xfy c.body)
def Xa9 (sep:List Nat):List (List Nat)→List Nat
 |[]=>[]
 |[x]=>x
 |x::y::r=>x++sep++Xa9 sep (y::r)
def Xlh (id:List Nat):List Nat:=if id=zero32 then[] else Xfi id
def Ylj (c:Cont):List Nat:=(c.height%256).toNat::c.root
def Xun (c:Cont):List Nat:=Xfh c.number++32::Xi8 (Ylj c)
def fWords:List (List Nat):=[
 [110,97,109,101],[97,117,116,104,111,114],[100,97,116,101],[103,114,111,117,112,115],[115,117,98,106,101,99,116],[114,101,102,101,114,101,110,99,101,115],
 [115,117,112,101,114,115,101,100,101,115],[99,111,110,116,114,111,108],[100,105,115,116,114,105,98,117,116,105,111,110],[107,101,121],[108,101,97,102]]
def Xcp (c:Cont):List (List Nat):=[
 c.name,Xb5 c.author,Xfh c.date,Xa9 [44] c.groups,c.subject,Xa9 [32] (c.refs.map Xfi),
 Xlh c.sup,c.ctl,c.dist,Xun c,Xfh c.leaf]
def Xcf (c:Cont):List Nat:=((fWords.zip (Xcp c)).flatMap fun p=>p.1++32::p.2++[10])++10::c.body
def idF (c:Cont):List Nat:=Xfn (Xcf c)
def exC (x:Nat):Cont:=⟨[65,110,110],1::List.replicate 15 0,0,[[97,46,98]],[116,101,x],[],zero32,[],[],0,1,List.replicate 16 0,0,[]⟩
theorem Ybn (x:Nat)(h:x=97∨x=110):Xe0 (exC x)=0:=by rcases h with rfl|rfl<;>decide+kernel
theorem Yn9:idF (exC 97)≠idF (exC 110):=by decide+kernel
end Go.Proofs.YtjolcnopipbkhaaGreatDoor
