/- Small helpers on worlds for the walks of this seat: what an owned row and a box of one cell do to each other. -/
import Derived.WalkKit
import Derived.WalkSpells
import Derived.WalkLawsBesides
import Derived.Deep.AppendLies
import Derived.Lib.Hide
import Derived.Maps.Own
import Derived.Test.YtjolcnopipbkhaaGreatDoorProg
import Derived.OrdersHeld
import Derived.Lib.FrozenHead
import Derived.BigQuiet
import Derived.Deep.QuietTactic
import Derived.Deep.RegionLaw
import Derived.Deep.RegionHeld3
import Derived.KernelRfl
import Derived.Deep.WholeRow
import Derived.DeepKeys
import Derived.IntWalk
import Derived.Outline
import Derived.OpenShut
import Derived.StillTailTactics
import Derived.BigRegion
import Derived.Deep.RegionWith
import Derived.Deep.LoopGhost
import Derived.Deep.DeepCutAuto
namespace Go.Proofs.YtjolcnopipbkhaaGreatDoor
open Go.Proofs.Tryz
open Go.RowKit Go.Maps
set_option linter.unusedVariables false
theorem Hd{p:Prop} (h:p):RowKit.Hid p:=h
abbrev Bw (w w':World):Prop:=Below w.heap.size w w'
theorem xq {α:Type}(a:α):∃x,x=a:=⟨a,rfl⟩
theorem bg {a b c:World}(h:Below a.heap.size a b)(k:Below b.heap.size b c):Below a.heap.size a c:=h.trans (k.mono h.size)
theorem zL (n:Nat):n≤n:=Nat.le_refl n
theorem zR (b:Nat)(w:World):Below b w w:=Below.refl b w
theorem bh {a b c:World}(h:Hid (Below a.heap.size a b))(k:Below b.heap.size b c):Hid (Below a.heap.size a c):=bg h k
abbrev zJ (f:FuncId)(xs:Array Value)(w:World)(v:Value):Prop:=Calls prog f xs w fun e w'=>e=.returned v∧Below w.heap.size w w'
theorem _root_.Go.RowKit.Hid.o {p:Prop}(h:Hid p):p:=h
abbrev Rx (f:FuncId)(xs:Array Value)(w:World)(v:Value):Prop:=Calls prog f xs w fun e w'=>e=.returned v∧w=w'
abbrev Ry (f:FuncId)(xs:Array Value)(w:World)(v:Value):Prop:=Calls prog f xs w fun e w'=>e=.returned v∧w'=w
abbrev Ld (T:TypeId)(a:Addr)(w:World)(v:Value):Prop:=(loadVar T a).run prog w=.ok v w
abbrev Sv (T:TypeId)(a:Addr)(v:Value)(w w':World):Prop:=(storeVar T a v).run prog w=.ok () w'
abbrev zY:=@lt_of_block
abbrev zP:=@bodyPost_ret
abbrev zN:=@heap_alloc_new
abbrev zG:=@List.getElem_mem
theorem qN {c:Prop}{i:Decidable c}(h:¬c){α:Sort _}{t e:α}:ite c t e=e:=if_neg h
theorem qP {c:Prop}{i:Decidable c}(h:c){α:Sort _}{t e:α}:ite c t e=t:=if_pos h
theorem zT {p:Prop}[i:Decidable p](h:p):decide p=true:=decide_eq_true h
theorem zW {p:Prop}[i:Decidable p](h:¬p):decide p=false:=decide_eq_false h
set_option maxRecDepth 100000
set_option maxHeartbeats 100000000
def U (n:Nat):Value:=.int .u8 n
theorem Xec {w:World}{base e size:Nat}{v:Value}{n:Nat}{xs:List Value}{b t:Nat}{cs:Array Value}{fz:Nat×Nat}
    (hown:w.ownsRow base e size v n xs) (hT:w.heap[b]?=some (.cells cs t fz)) (hne:t≠e):v.ownBlock≠some b:=by
 intro h
 rcases hown.2 with⟨rfl,_⟩|⟨g,cap,cur,rfl,_,hg,_⟩
 ·simp[Value.ownBlock] at h
 ·simp[Value.ownBlock] at h
  subst h
  rw[hg] at hT
  simp at hT
  exact hne hT.2.1.symm
theorem Xdk {w w':World}{row:Option Nat}{b:Nat}{o:Obj}(hg:w.grownBy w' row)(hb:w.heap[b]?=some o)(hne:row≠some b):w'.heap[b]?=some o:=
 (hg.block b (zY hb) (fun h=>hne h.symm)).trans hb
def KM (w w':World):Prop:=∀(k:Nat) (es:Array MapEntry) (c:Nat),w.heap[k]?=some (.map es c)→w'.heap[k]?=some (.map es c)
theorem KM.trans {a b c:World}(h:KM a b)(h':KM b c):KM a c:=fun k es cl hk=>h' k es cl (h k es cl hk)
theorem KM.drew {a b:World}(h:KM a b):KM a b.drew:=h
theorem KM.setCell {w:World}{b t:Nat}{cs:Array Value}{fz:Nat×Nat}(hb:w.heap[b]?=some (.cells cs t fz))(o:Nat)(u:Value):KM w (w.setCell ⟨b,o,none⟩ u):=by
 intro k es c hk
 have hne:k≠b:=fun e=>by rw[e,hb] at hk;simp at hk
 rw[Below.heap_setCell _ _ _ _ hne]
 exact hk
theorem KM.owns {H:Type}{w w':World}(h:KM w w'){P:Program}{k:TypeId}{R:Value→Option (DataW H×List MemPlace)}{b n:Nat}{D:DataW H}(ho:w.ownsMap P k R b n D):w'.ownsMap P k R b n D:=by
 obtain⟨es,c,hb,r⟩:=ho
 exact⟨es,c,h b es c hb,r⟩
structure Frame1 (B Bt:Nat) (v:Value) (w w':World):Prop where
 below:Below B w w'
 other:∀k,k<w.heap.size→k≠Bt→v.ownBlock≠some k→w'.heap[k]?=w.heap[k]?
theorem Frame1.km {B Bt t e base size n:Nat}{v:Value}{xs:List Value}{w w':World}{cs:Array Value}{fz:Nat×Nat}(h:Frame1 B Bt v w w')(hT:w.heap[Bt]?=some (.cells cs t fz))(hown:w.ownsRow base e size v n xs):KM w w':=by
 intro k es c hk
 refine(h.other k (zY hk) (fun e=>by rw[e,hT] at hk;simp at hk) ?_).trans hk
 intro e'
 rcases hown.2 with⟨rfl,_⟩|⟨g,cap,cur,rfl,_,hg,_⟩
 ·simp[Value.ownBlock] at e'
 ·simp[Value.ownBlock] at e'
  subst e'
  rw[hg] at hk
  simp at hk
theorem Xae {w:World}{o:Obj}{b:Nat}{x:Obj}(h:w.heap[b]?=some x):(w.alloc o).heap[b]?=some x:=
 (Below.heap_alloc w o b (zY h)).trans h
theorem Xlu {w wA w1:World}{base Bt e t:Nat}{v:Value}{xs:List Value}{ys:List Value}{gg cap n m:Nat}
    (hown1:w1.ownsRow base e 1 (.slice (some ⟨gg,0,none⟩) (n+m) cap) (n+m) (xs++ys)) (hgrow:wA.grownBy w1 v.ownBlock) (hA:Bw w wA)
    (hT1:w1.heap[Bt]?=some (.cells #[v] t (0,0))) (hte:t≠e) (hBt:base≤Bt) (hbase:base≤w.heap.size) (hv:w.ownsRow base e 1 v n xs):
    (∃v',(w1.setCell ⟨Bt,0,none⟩ (.slice (some ⟨gg,0,none⟩) (n+m) cap)).heap[Bt]?=some (.cells #[v'] t (0,0))∧
     (w1.setCell ⟨Bt,0,none⟩ (.slice (some ⟨gg,0,none⟩) (n+m) cap)).ownsRow base e 1 v' (n+m) (xs++ys))∧
    Frame1 base Bt v w (w1.setCell ⟨Bt,0,none⟩ (.slice (some ⟨gg,0,none⟩) (n+m) cap)):=by
 refine⟨⟨_,one_setCell hT1,ownsRow_setCell_other hown1 (Xec hown1 hT1 hte) _⟩,?_,?_⟩
 ·refine Below.setCell ?_ hBt _
  refine Below.grown (hA.mono hbase) hgrow (Nat.le_trans hbase hA.size) ?_
  intro k hk
  exact(hv.lt k hk).1
 ·intro k hk h1 h2
  rw[Below.heap_setCell _ _ _ _ h1,hgrow.block k (Nat.lt_of_lt_of_le hk hA.size) (fun h=>h2 h.symm),hA.block k hk]
set_option maxRecDepth 100000
set_option maxHeartbeats 100000000
theorem Xad {P:Program}{md:Region.Mode}{ops:Array Oper}{Q:Exit→Act→World→Prop}{S:World→Prop}{fuel:Nat}{listed:Array Bool}{a:Act}{w:World}(i:Nat)(v:Value){oi:Oper}(hi:ops[i]?=some oi)
    (he:∀w',S w'→(execOp a.eval oi).run P w'=.ok (.value v) w') (hS:S w) (h:wpAnyH P md ops Q S fuel (listed.setIfInBounds i true) (a.put oi.dst v) w)
    (hw:Region.wanted oi (yielded ops a.tmps)=true:=by kernel_rfl) (hs:Region.noSelect ops=true:=by kernel_rfl) (hf:Region.free md ops listed i=true:=by kernel_rfl) (hr:(Region.ready md ops listed).contains i=true:=by kernel_rfl)
    (hQ:∀c a w,Q (.panic c) (a.put oi.dst v) w→Q (.panic c) a w:=by exact fun _ _ _ h=>h):wpAnyH P md ops Q S (fuel+1) listed a w:=
 wpAnyH_take hi hs hf hr hQ (Or.inl ⟨hw,he⟩) hS h
theorem Xcl {P:Program}{md:Region.Mode}{ops:Array Oper}{Q:Exit→Act→World→Prop}{S:World→Prop}{fuel:Nat}{listed:Array Bool}{a:Act}{w:World}(i:Nat){oi:Oper}(hi:ops[i]?=some oi)
    (hS:S w) (h:wpAnyH P md ops Q S fuel (listed.setIfInBounds i true) (a.put oi.dst undef) w)
    (hw:Region.wanted oi (yielded ops a.tmps)=false:=by kernel_rfl) (hs:Region.noSelect ops=true:=by kernel_rfl) (hf:Region.free md ops listed i=true:=by kernel_rfl) (hr:(Region.ready md ops listed).contains i=true:=by kernel_rfl)
    (hQ:∀c a w,Q (.panic c) (a.put oi.dst undef) w→Q (.panic c) a w:=by exact fun _ _ _ h=>h):wpAnyH P md ops Q S (fuel+1) listed a w:=
 wpAnyH_take hi hs hf hr hQ (Or.inr ⟨hw,rfl⟩) hS h
def Xb5 (f:Nat→Nat)(tt:Nat):Nat→Nat→Nat→List Nat→Nat×Nat×List Nat
 |0,b,c,xs=>(b,c,xs)
 |k+1,b,c,xs=>if c<tt then(b,c,xs) else Xb5 f tt k (b%2^(c-tt)) (c-tt) (xs++[f (b/2^(c-tt))])
theorem Xe0 (f:Nat→Nat)(tt k b c:Nat)(xs:List Nat)(h:¬c<tt):Xb5 f tt (k+1) b c xs=Xb5 f tt k (b%2^(c-tt)) (c-tt) (xs++[f (b/2^(c-tt))]):=by rw[Xb5,qN h]
theorem Xqh (f:Nat→Nat)(tt:Nat)(ht:1≤tt):∀(k b c:Nat) (xs:List Nat),b<2^c→c≤k→
    (Xb5 f tt k b c xs).2.1<tt∧(Xb5 f tt k b c xs).1<2^(Xb5 f tt k b c xs).2.1∧(Xb5 f tt k b c xs).2.2.length*tt+(Xb5 f tt k b c xs).2.1=xs.length*tt+c:=by
 intro k
 induction k with
 |zero=>intro b c xs hb hc;obtain rfl:c=0:=by omega
        simp[Xb5];exact⟨by omega,by simpa using hb⟩
 |succ k ih=>
  intro b c xs hb hc
  by_cases h:c<tt
  ·rw[Xb5,qP h];exact⟨h,hb,rfl⟩
  ·rw[Xe0 _ _ _ _ _ _ h]
   have:=ih (b%2^(c-tt)) (c-tt) (xs++[f (b/2^(c-tt))]) (Nat.mod_lt _ (Nat.pow_pos (by omega))) (by omega)
   refine⟨this.1,this.2.1,?_⟩
   rw[this.2.2,List.length_append,Nat.add_mul]
   simp
   omega
def alph:List Nat:=[65,66,67,68,69,70,71,72,73,74,75,76,77,78,79,80,81,82,83,84,85,86,87,88,89,90,97,98,99,100,101,102,103,104,105,106,107,108,109,110,111,112,113,114,115,116,117,118,119,120,121,122,48,49,50,51,52,53,54,55,56,57,43,47]
def al (g:Nat):Nat:=alph.getD g 0
theorem Yfl (g:Nat):al g<123:=by
 by_cases h:g<64
 ·exact(by decide:∀g,g<64→al g<123) g h
 ·unfold al;rw[List.getD_eq_getElem?_getD,List.getElem?_eq_none (by simp[alph];omega)];simp
def Xbe (s:Nat×Nat×List Nat)(g:Nat):Nat×Nat×List Nat:=Xb5 al 6 16 (s.1*2^8+g) (s.2.1+8) s.2.2
def Xgp (l:List Nat):Nat×Nat×List Nat:=l.foldl Xbe (0,0,[])
theorem Xm1 (l:List Nat)(g:Nat):Xgp (l++[g])=Xbe (Xgp l) g:=by simp[Xgp]
theorem Xjv {bits count fr g:Nat}(hbits:bits<2^count)(hg:g<2^fr):bits*2^fr+g<2^(count+fr):=by
 rw[Nat.pow_add]
 have h1:(bits+1)*2^fr≤2^count*2^fr:=Nat.mul_le_mul_right _ (by omega)
 rw[Nat.add_mul] at h1
 generalize 2^count*2^fr=a at*
 generalize bits*2^fr=b at*
 omega
theorem Xsh (s:Nat×Nat×List Nat)(g:Nat)(hg:g<256)(h1:s.2.1<6)(h2:s.1<2^s.2.1):
    (Xbe s g).2.1<6∧(Xbe s g).1<2^(Xbe s g).2.1∧(Xbe s g).2.2.length*6+(Xbe s g).2.1=s.2.2.length*6+s.2.1+8:=by
 have:=Xqh al 6 (by omega) 16 (s.1*2^8+g) (s.2.1+8) s.2.2 (Xjv h2 (by omega)) (by omega)
 exact⟨this.1,this.2.1,by rw[Nat.add_assoc];exact this.2.2⟩
theorem Xh4 (l:List Nat)(hl:∀x∈l,x<256):(Xgp l).2.1<6∧(Xgp l).1<2^(Xgp l).2.1∧(Xgp l).2.2.length*6+(Xgp l).2.1=l.length*8:=by
 have key:∀(r:List Nat) (s:Nat×Nat×List Nat),(∀x∈r,x<256)→s.2.1<6→s.1<2^s.2.1→
     (r.foldl Xbe s).2.1<6∧(r.foldl Xbe s).1<2^(r.foldl Xbe s).2.1∧(r.foldl Xbe s).2.2.length*6+(r.foldl Xbe s).2.1=s.2.2.length*6+s.2.1+r.length*8:=by
  intro r
  induction r with
  |nil=>intro s _ h1 h2;exact⟨h1,h2,by simp⟩
  |cons x r ih=>
   intro s hx h1 h2
   have a:=Xsh s x (hx x (by simp)) h1 h2
   have b:=ih (Xbe s x) (fun y hy=>hx y (by simp[hy])) a.1 a.2.1
   rw[List.foldl_cons]
   refine⟨b.1,b.2.1,?_⟩
   rw[b.2.2,a.2.2];simp;omega
 have:=key l (0,0,[]) hl (by simp) (by simp)
 simpa [Xgp] using this
def Xbo (s:Nat×Nat×List Nat):List Nat:=if 0<s.2.1 then s.2.2++[al (s.1*2^(6-s.2.1))] else s.2.2
def Xik (xs:List Nat):List Nat:=xs++List.replicate ((4-xs.length%4)%4) 61
def Xfk (l:List Nat):List Nat:=Xik (Xbo (Xgp l))
theorem Xpv (xs:List Nat)(h:xs.length%4=0):Xik xs=xs:=by simp[Xik,h]
theorem Xpu (xs:List Nat)(h:¬xs.length%4=0):Xik (xs++[61])=Xik xs:=by
 unfold Xik
 rw[List.append_assoc,List.length_append]
 congr 1
 have:(4-xs.length%4)%4=(4-(xs.length+1)%4)%4+1:=by omega
 simp only[List.length_singleton]
 rw[this,List.replicate_succ]
 rfl
theorem Xt5 (xs:List Nat):(Xik xs).length=(xs.length+3)/4*4:=by simp[Xik];omega
theorem Xlh (b c:Nat)(xs:List Nat)(n:Nat)(h:xs.length*6+c=n*8):(Xbo (b,c,xs)).length≤2*n+1:=by
 unfold Xbo
 by_cases hc:0<(b,c,xs).2.1
 ·rw[qP hc];simp;omega
 ·rw[qN hc];simp;omega
theorem Yau {l:List Nat}{b c:Nat}{xs:List Nat}(h:Xgp l=(b,c,xs)):Xik (Xbo (b,c,xs))=Xfk l:=by rw[Xfk,h]
def Xaq (l:List Nat):ByteArray:=⟨(l.map UInt8.ofNat).toArray⟩
theorem Xan (l:List Nat):(Xaq l).size=l.length:=by simp[Xaq,ByteArray.size]
def bs (s:ByteArray):List Nat:=s.data.toList.map UInt8.toNat
theorem Xaa (s:ByteArray):(bs s).length=s.size:=by unfold bs;rw[List.length_map];rfl
theorem Ylk (s:ByteArray)(i:Nat)(h:i<s.size):(bs s)[i]'(by rw[Xaa];exact h)=s[i].toNat:=by unfold bs;rw[List.getElem_map];rfl
theorem Yiv (s:ByteArray)(i:Nat)(h:i<s.size):(bs s).getD i 0=s[i].toNat:=by
 rw[List.getD_eq_getElem?_getD,List.getElem?_eq_getElem (by rw[Xaa];exact h),Option.getD_some,Ylk s i h]
theorem Xgq (s:ByteArray):∀x∈bs s,x<256:=by
 intro x hx
 obtain⟨u,_,rfl⟩:=List.mem_map.1 hx
 exact u.toNat_lt
theorem Xd3 (s:ByteArray):Xaq (bs s)=s:=by
 unfold Xaq bs
 rw[List.map_map]
 have:(UInt8.ofNat∘UInt8.toNat)=id:=by funext u;exact UInt8.ofNat_toNat
 rw[this,List.map_id]
theorem Xci (l:List Nat)(h:∀x∈l,x<256):bs (Xaq l)=l:=by
 unfold Xaq bs
 simp only[List.map_map]
 have:l.map (UInt8.toNat∘UInt8.ofNat)=l.map id:=by
  apply List.map_congr_left
  intro x hx
  exact Nat.mod_eq_of_lt (h x hx)
 rw[this,List.map_id]
def vOf (c:Nat):Option Nat:=(List.range 64).find? (fun i=>al i==c)
theorem Xxl {c v:Nat}(h:vOf c=some v):v<64:=by
 have:=List.mem_of_find?_eq_some h
 simpa using this
theorem Yjt {c v:Nat}(h:vOf c=some v):al v=c:=by
 have:=List.find?_some h
 simpa using this
def Xbk (l:List Nat):Nat:=
 if l.length=0∨l.length%4≠0∨l.getD (l.length-1) 0≠61 then l.length else if l.getD (l.length-2) 0=61 then l.length-2 else l.length-1
theorem Xj1 (l:List Nat):Xbk l≤l.length:=by
 unfold Xbk;split
 ·exact zL _
 ·split<;>omega
def Xbb (s:Nat×Nat×List Nat)(g:Nat):Nat×Nat×List Nat:=Xb5 id 8 16 (s.1*2^6+g) (s.2.1+6) s.2.2
def Xep (l:List Nat):Nat×Nat×List Nat:=l.foldl Xbb (0,0,[])
theorem Xm3 (l:List Nat)(g:Nat):Xep (l++[g])=Xbb (Xep l) g:=by simp[Xep]
theorem Xsm (s:Nat×Nat×List Nat)(g:Nat)(hg:g<64)(h1:s.2.1<8)(h2:s.1<2^s.2.1):
    (Xbb s g).2.1<8∧(Xbb s g).1<2^(Xbb s g).2.1∧(Xbb s g).2.2.length*8+(Xbb s g).2.1=s.2.2.length*8+s.2.1+6:=by
 have:=Xqh id 8 (by omega) 16 (s.1*2^6+g) (s.2.1+6) s.2.2 (Xjv h2 (by omega)) (by omega)
 exact⟨this.1,this.2.1,by rw[Nat.add_assoc];exact this.2.2⟩
theorem Xlk (l:List Nat)(hl:∀x∈l,x<64):(Xep l).2.1<8∧(Xep l).1<2^(Xep l).2.1∧(Xep l).2.2.length*8+(Xep l).2.1=l.length*6:=by
 have key:∀(r:List Nat) (s:Nat×Nat×List Nat),(∀x∈r,x<64)→s.2.1<8→s.1<2^s.2.1→
     (r.foldl Xbb s).2.1<8∧(r.foldl Xbb s).1<2^(r.foldl Xbb s).2.1∧(r.foldl Xbb s).2.2.length*8+(r.foldl Xbb s).2.1=s.2.2.length*8+s.2.1+r.length*6:=by
  intro r
  induction r with
  |nil=>intro s _ h1 h2;exact⟨h1,h2,by simp⟩
  |cons x r ih=>
   intro s hx h1 h2
   have a:=Xsm s x (hx x (by simp)) h1 h2
   have b:=ih (Xbb s x) (fun y hy=>hx y (by simp[hy])) a.1 a.2.1
   rw[List.foldl_cons]
   refine⟨b.1,b.2.1,?_⟩
   rw[b.2.2,a.2.2];simp;omega
 have:=key l (0,0,[]) hl (by simp) (by simp)
 simpa [Xep] using this
def Xig (l:List Nat):Option (List Nat):=l.mapM vOf
theorem Xta:Xig []=some []:=rfl
theorem Xo3 {l vs:List Nat}{c v:Nat}(h:Xig l=some vs)(hc:vOf c=some v):Xig (l++[c])=some (vs++[v]):=by
 simp[Xig,List.mapM_append] at*
 simp[h,hc]
theorem Xq4:∀{l vs:List Nat},Xig l=some vs→(∀x∈vs,x<64)∧vs.length=l.length:=by
 intro l
 induction l with
 |nil=>intro vs h;simp[Xig] at h;subst h;simp
 |cons c l ih=>
  intro vs h
  simp only[Xig,List.mapM_cons,Option.bind_eq_bind,Option.bind_eq_some_iff,Option.pure_def,Option.some.injEq] at h
  obtain⟨v,hv,r,hr,rfl⟩:=h
  have:=ih hr
  exact⟨by intro x hx;rcases List.mem_cons.1 hx with rfl|hx;exact Xxl hv;exact this.1 x hx,by simp[this.2]⟩
def Yi2 (l:List Nat)(n:Nat):Option Nat:=(List.range n).find? (fun i=>(vOf (l.getD i 0)).isNone)
def Xct (l:List Nat):List Nat×Nat×Nat:=
 if 174764<l.length then([],0,5) else
 match Xig (l.take (Xbk l)) with
 |none=>([],(Yi2 l (Xbk l)).getD 0,6)
 |some vs=>if l.length%4≠0 then([],l.length,4) else if(Xep vs).1≠0 then([],Xbk l-1,3) else((Xep vs).2.2,0,0)
theorem Xjf {l:List Nat}{j n:Nat}(h:Xig (l.take (j+1))=none)(hn:j<n):Xig (l.take n)=none:=by
 have e:l.take n=l.take (j+1)++(l.take n).drop (j+1):=by
  have h1:=(List.take_append_drop (j+1) (l.take n)).symm
  rw[List.take_take,Nat.min_eq_left (by omega)] at h1
  exact h1
 rw[e]
 simp only[Xig,List.mapM_append] at*
 simp[h]
theorem Ycg {l vs:List Nat}{i:Nat}(h:Xig l=some vs)(hi:i<l.length):(vOf l[i]).isSome=true:=by
 induction l generalizing vs i with
 |nil=>simp at hi
 |cons c l ih=>
  simp only[Xig,List.mapM_cons,Option.bind_eq_bind,Option.bind_eq_some_iff,Option.pure_def,Option.some.injEq] at h
  obtain⟨v,hv,r,hr,rfl⟩:=h
  cases i with
  |zero=>simp[hv]
  |succ i=>simpa using ih hr (by simpa using hi)
theorem Xuu {l vs:List Nat}{j:Nat}(h:Xig (l.take j)=some vs)(hj:j<Xbk l)(hjl:j<l.length)(hc:vOf l[j]=none)(hlen:l.length≤174764):Xct l=([],j,6):=by
 have h1:Xig (l.take (j+1))=none:=by
  rw[List.take_succ_eq_append_getElem hjl]
  simp only[Xig,List.mapM_append] at*
  simp[h,hc]
 have h2:Yi2 l (Xbk l)=some j:=by
  unfold Yi2
  rw[List.find?_eq_some_iff_getElem]
  refine⟨?_,j,by simpa using hj,by simp,?_⟩
  ·rw[List.getD_eq_getElem?_getD,List.getElem?_eq_getElem hjl];simp[hc]
  ·intro i hi
   have hil:i<(l.take j).length:=by simp;omega
   have:=Ycg h hil
   simp only[List.getElem_range]
   rw[List.getElem_take] at this
   rw[List.getD_eq_getElem?_getD,List.getElem?_eq_getElem (by omega)]
   simp only[Option.getD_some]
   cases hv:vOf l[i]
   ·rw[hv] at this;simp at this
   ·simp
 unfold Xct
 rw[qN (by omega),Xjf h1 hj,h2]
 rfl
theorem Xh5 {l vs:List Nat}(h:Xig (l.take (Xbk l))=some vs)(hlen:l.length≤174764):
    Xct l=if l.length%4≠0 then([],l.length,4) else if(Xep vs).1≠0 then([],Xbk l-1,3) else((Xep vs).2.2,0,0):=by
 unfold Xct
 rw[qN (by omega),h]
theorem Xq8 (s:ByteArray):Lib.strCells s=(bs s).map U:=by
 unfold Lib.strCells bs
 rw[List.map_map]
 rfl
theorem Ykt:(prog.info? 5).map (fun i=>(i.zero,i.size,i.bytes))=some (some (.int .u8 0),1,1):=by kernel_rfl
theorem Xnz {w:World}{base e size:Nat}{v:Value}{n:Nat}{xs:List Value}{b t:Nat}{cs:Array Value}{fz:Nat×Nat}
    (hown:w.ownsRowF base e size v n xs) (hT:w.heap[b]?=some (.cells cs t fz)) (hne:t≠e):v.ownBlock≠some b:=by
 intro h
 rcases hown.2 with⟨rfl,_⟩|⟨g,cap,cur,fz',rfl,_,hg,_⟩
 ·simp[Value.ownBlock] at h
 ·simp[Value.ownBlock] at h
  subst h
  rw[hg] at hT
  simp at hT
  exact hne hT.2.1.symm
theorem Xv3 {w:World}{base e size n:Nat}{v:Value}{xs:List Value}(h:w.ownsRowF base e size v n xs):∃a cap,v=.slice a n cap:=by
 rcases h.2 with⟨rfl,rfl⟩|⟨g,cap,cur,fz,rfl,_⟩
 ·exact⟨none,0,rfl⟩
 ·exact⟨some ⟨g,0,none⟩,cap,rfl⟩
def Ynb (w:World)(v v':Value):Prop:=v'.ownBlock=v.ownBlock∨v'.ownBlock=some w.heap.size
theorem Xxd {P:Program}(w:World)(base:Nat)(t u ty e:TypeId)(i:TypeInfo)(ht:P.underlying t=some (.slice e))(hu:P.underlying u=some .string)(hi:P.info? e=some i)(hz:i.zero=some (.int .u8 0))
    (hsize:i.size=1) (hby:i.bytes=1) (v:Value) (n:Nat) (xs:List Value) (hown:w.ownsRowF base e 1 v n xs) (s:ByteArray) (hbytes:n+s.size≤140737488355328) (hbase:base≤w.heap.size):
    ∃v' w',(Builtin.append_ #[t,u] ty #[v,.string s]).run P w=.ok v' w'∧w'.ownsRowF base e 1 v' (n+s.size) (xs++Lib.strCells s)∧w.grownBy w' v.ownBlock∧Ynb w v v':=by
 obtain⟨v',w',hr,h2,h3,h4⟩:=Lib.run_append_own_stringF (P:=P) w base t u ty e i ht hu hi hz hsize hby v n xs hown s (by unfold maxLen;omega) hbytes hbase
 refine⟨v',w',hr,h2,h3,?_⟩
 rcases hown.2 with⟨rfl,rfl⟩|⟨g,cap,cur,fz,rfl,hbg,hg,hfz,hnc,hcm,hcs,htake⟩
 ·by_cases hm:s.size=0
  ·left
   rw[(h4.2 ⟨rfl,hm⟩)]
  ·right
   have hr2:=run_append_nil_string (P:=P) w t u ty e i (.int .u8 0) ht hu hi hz s (by omega) (by omega) (by rw[hby];omega)
   rw[hr] at hr2
   cases hr2
   rfl
 ·by_cases hroom:n+s.size≤cap
  ·left
   have hr2:=Lib.run_append_room_stringF (P:=P) w t u ty e i ht hu hi hsize g n cap cur fz hg (by simpa using hfz) s hroom (by omega)
   rw[hr] at hr2
   cases hr2
   rfl
  ·right
   have hr2:=Lib.run_append_grow_string (P:=P) w t u ty e i (.int .u8 0) ht hu hi hz ⟨g,0,none⟩ n cap xs (by rw[hsize];exact hown.1) (hown.cells (g:=g) rfl) s (by omega) (by omega) (by rw[hby];exact growslice_fits (by omega) (by omega))
   rw[hr] at hr2
   cases hr2
   rfl
structure Bd (w:World) (B b o:Nat) (T:TypeId) (cs:Array Value) (v:Value) (xs:List Nat):Prop where
 heap:w.heap[b]?=some (.cells cs T (0,0))
 addr:cs[o]?=some (.pointer none)∨cs[o]?=some (.pointer (some ⟨b,o,none⟩))
 buf:cs[o+1]?=some v
 row:w.ownsRowF B 5 1 v xs.length (xs.map U)
theorem Xw3 {w:World}{b:Nat}{cs:Array Value}{T:TypeId}{fr:Nat×Nat}(hb:w.heap[b]?=some (.cells cs T fr))(j:Nat):w.cell? ⟨b,j,none⟩=cs[j]?:=by simp[World.cell?,hb]
theorem Xdn {w:World}{b:Nat}{cs:Array Value}{T:TypeId}(hb:w.heap[b]?=some (.cells cs T (0,0)))(j:Nat):w.frozen? ⟨b,j,none⟩=false:=by simp[World.frozen?,hb]
theorem Xtt {w:World}{b:Nat}{cs:Array Value}{T:TypeId}{fr:Nat×Nat}(hb:w.heap[b]?=some (.cells cs T fr)):w.shape? b=some (T,cs.size):=by simp[World.shape?,hb]
theorem Xd8 {w:World}{b:Nat}{cs:Array Value}{T:TypeId}{fr:Nat×Nat}(hb:w.heap[b]?=some (.cells cs T fr))(j:Nat)(u:Value):(w.setCell ⟨b,j,none⟩ u).heap[b]?=some (.cells (cs.setIfInBounds j u) T fr):=by
 simp[World.setCell,Array.getElem?_modify,hb]
theorem Xkr (w:World)(b j k:Nat)(u:Value)(h:k≠b):(w.setCell ⟨b,j,none⟩ u).heap[k]?=w.heap[k]?:=Below.heap_setCell _ _ _ _ h
theorem Xt8 {w:World}{base e size n:Nat}{v:Value}{xs:List Value}(h:w.ownsRowF base e size v n xs){b:Nat}(hne:v.ownBlock≠some b)(j:Nat)(u:Value):(w.setCell ⟨b,j,none⟩ u).ownsRowF base e size v n xs:=by
 refine⟨h.1,?_⟩
 rcases h.2 with h|⟨g,cap,cur,fz,rfl,hg,hh,r⟩
 ·exact .inl h
 ·exact .inr ⟨g,cap,cur,fz,rfl,hg,(Xkr w b j g u (fun e=>hne (by simp[Value.ownBlock,e]))).trans hh,r⟩
theorem Xk8:∃j,prog.info? 84=some j∧j.size≠0:=by
 have h:(prog.info? 84).map (·.size)=some 2:=by kernel_rfl
 obtain⟨j,hj,hs⟩:=Option.map_eq_some_iff.1 h
 exact⟨j,hj,by rw[hs];decide⟩
theorem Ydv (w:World)(x:Value):(callFunc 131 #[x]).run prog w=.ok (.value x) w:=by
 rw[run_callFunc_extern func131 (by kernel_rfl) (by kernel_rfl) (by kernel_rfl) (e:=Extern.AbiNoEscape.same) (by kernel_rfl),Lib.run_noEscape]
 rfl
theorem Ye2 (w:World)(b o:Nat)(T:TypeId)(cs:Array Value)(hb:w.heap[b]?=some (.cells cs T (0,0)))(ha:cs[o]?=some (.pointer none))
    (hl:liesAt prog prog.depth T (cs.size/prog.cellsOf T) o 84 1=true):
    Calls prog 83 #[.pointer (some ⟨b,o,none⟩)] w fun e w'=>e=.returned (.tuple #[])∧w'=w.setCell ⟨b,o,none⟩ (.pointer (some ⟨b,o,none⟩)):=by
 have hc:=Xw3 hb o
 rw[ha] at hc
 have hf:=Xdn hb o
 have ho:o<cs.size:=(Array.getElem?_eq_some_iff.1 ha).1
 obtain⟨j,hj,hjs⟩:=Xk8
 have r1:=fun w (h:w.shape? b=some (T,cs.size))=>Lib.run_to_unsafe (P:=prog) w (src:=81) (dst:=188) ⟨b,o,none⟩ underlying81 underlying188 hj hjs h ho
 have r2:=fun w (h:w.shape? b=some (T,cs.size))=>Lib.run_from_unsafe (P:=prog) w (src:=188) (dst:=81) ⟨b,o,none⟩ underlying188 underlying81 hj h hl
 have q1:=r1 w (Xtt hb)
 have q2:=r2 w (Xtt hb)
 have e1:=Ydv
 clear r1 r2 hb ha hl hjs
 go_enter func83,ntmps83
 go_wp2
 go_end0
 exact⟨rfl,rfl⟩
theorem Ye1 (w:World)(b o:Nat)(T:TypeId)(cs:Array Value)(hb:w.heap[b]?=some (.cells cs T (0,0)))(ha:cs[o]?=some (.pointer (some ⟨b,o,none⟩))):
    Rx 83 #[.pointer (some ⟨b,o,none⟩)] w (.tuple #[]):=by
 have hc:=Xw3 hb o
 rw[ha] at hc
 obtain⟨j,hj,hjs⟩:=Xk8
 have r1:=fun w=>Lib.run_neq_ptr_same (P:=prog) w (tp:=81) ⟨b,o,none⟩ underlying81 hj
 clear hb ha hjs
 go_enter func83,ntmps83
 go_wp2
 go_end0
 exact⟨rfl,rfl⟩
theorem Xhk {P:Program}{w:World}{ops:Array Oper}{rest:List Oper}{o:Oper}{a:Act}{Q:Exit→Act→World→Prop}(hgd:o.guard=none)(sl x:Operand)(t u:TypeId)
    (ho:o.op=.call {callee:=.builtin .append,args:=#[sl,x],argTypes:=#[t,u]})
    (base:Nat) (e:TypeId) (i:TypeInfo) (ht:P.underlying t=some (.slice e)) (hu:P.underlying u=some .string) (hi:P.info? e=some i) (hz:i.zero=some (.int .u8 0))
    (hsize:i.size=1) (hby:i.bytes=1)
    (v:Value) (n:Nat) (xs:List Value) (hs:a.eval sl=v) (hown:w.ownsRowF base e 1 v n xs) (s:ByteArray) (hx:a.eval x=.string s) (hbytes:n+s.size≤140737488355328) (hbase:base≤w.heap.size)
    (h:∀v' w',w'.ownsRowF base e 1 v' (n+s.size) (xs++Lib.strCells s)→w.grownBy w' v.ownBlock→Ynb w v v'→wpList P ops Q rest (a.put o.dst v') w'):wpList P ops Q (o::rest) a w:=by
 refine wpList_plain hgd fun K hK=>?_
 obtain⟨v',w',hr,h2,h3,h4⟩:=Xxd (P:=P) w base t u o.type e i ht hu hi hz hsize hby v n xs hown s hbytes hbase
 unfold Oper.wp execOp
 simp only[ho,resolve,invoke,builtin,Sem.run_bind,Sem.run_pure,Result.andThen_ok,List.map_toArray,List.map_cons,List.map_nil,hs,hx,hr]
 exact hK _ _ (h v' w' h2 h3 h4)
structure FrB (b:Nat) (v:Value) (w w':World):Prop where
 os:w'.os=w.os
 tape:w'.tape=w.tape
 output:w'.output=w.output
 size:w.heap.size≤w'.heap.size
 other:∀k,k<w.heap.size→k≠b→v.ownBlock≠some k→w'.heap[k]?=w.heap[k]?
theorem FrB.below {b B:Nat}{v:Value}{w w':World}(h:FrB b v w w')(hB:B≤w.heap.size)(hb:B≤b)(hv:∀k,v.ownBlock=some k→B≤k):Below B w w':=
 ⟨h.os,h.tape,h.output,h.size,fun k hk=>h.other k (by omega) (by omega) (fun e=>by have:=hv k e;omega)⟩
def Ygn (w:World)(B b o:Nat)(T:TypeId)(cs:Array Value)(v:Value)(xs:List Nat)(w':World):Prop:=
 ∃cs' v',Bd w' B b o T cs' v' xs∧cs'.size=cs.size∧(∀j,j≠o→j≠o+1→cs'[j]?=cs[j]?)∧(v'.ownBlock=v.ownBlock∨∃g,v'.ownBlock=some g∧w.heap.size≤g)∧FrB b v w w'
theorem Yfd {w w0 w1:World}{B b o T:Nat}{cs:Array Value}{v v':Value}{ys:List Nat}{n:Nat}(hT:T≠5)(hB:B≤w.heap.size)(hb:w.heap[b]?=some (.cells cs T (0,0)))(ho:o+1<cs.size)
    (hb0:w0.heap[b]?=some (.cells (cs.setIfInBounds o (.pointer (some ⟨b,o,none⟩))) T (0,0))) (hne:v.ownBlock≠some b)
    (hw0:w0.os=w.os∧w0.tape=w.tape∧w0.output=w.output∧w.heap.size≤w0.heap.size∧∀k,k<w.heap.size→k≠b→w0.heap[k]?=w.heap[k]?)
    (hown:w1.ownsRowF B 5 1 v' n (ys.map U)) (hn:n=ys.length) (hg:w0.grownBy w1 v.ownBlock) (hl:Ynb w0 v v'):
    Ygn w B b o T cs v ys (w1.setCell ⟨b,o+1,none⟩ v'):=by
 subst hn
 have hlt0:b<w0.heap.size:=zY hb0
 have hb1:w1.heap[b]?=some (.cells (cs.setIfInBounds o (.pointer (some ⟨b,o,none⟩))) T (0,0)):=(hg.block b hlt0 (fun e=>hne e.symm)).trans hb0
 have hne':v'.ownBlock≠some b:=Xnz hown hb1 hT
 refine⟨_,v',⟨Xd8 hb1 _ _,.inr ?_,?_,Xt8 hown hne' _ _⟩,by simp,?_,?_,?_⟩
 ·rw[Array.getElem?_setIfInBounds_ne (by omega),Array.getElem?_setIfInBounds_self,qP (by omega)]
 ·rw[Array.getElem?_setIfInBounds_self,qP (by simpa using ho)]
 ·intro j h1 h2
  rw[Array.getElem?_setIfInBounds_ne (by omega),Array.getElem?_setIfInBounds_ne (by omega)]
 ·rcases hl with h|h
  ·exact .inl h
  ·exact .inr ⟨_,h,hw0.2.2.2.1⟩
 ·refine⟨hg.os.trans hw0.1,hg.tape.trans hw0.2.1,hg.output.trans hw0.2.2.1,?_,?_⟩
  ·have:=hg.size
   have:=hw0.2.2.2.1
   simp[World.setCell]
   omega
  ·intro k hk h1 h2
   rw[Xkr _ _ _ _ _ h1,hg.block k (Nat.lt_of_lt_of_le hk hw0.2.2.2.1) (fun e=>h2 e.symm),hw0.2.2.2.2 k hk h1]
structure Copied (w w0:World) (b o:Nat) (T:TypeId) (cs:Array Value):Prop where
 heap:w0.heap[b]?=some (.cells (cs.setIfInBounds o (.pointer (some ⟨b,o,none⟩))) T (0,0))
 same:w0.os=w.os∧w0.tape=w.tape∧w0.output=w.output∧w.heap.size≤w0.heap.size∧∀k,k<w.heap.size→k≠b→w0.heap[k]?=w.heap[k]?
theorem Ycy {cs:Array Value}{o:Nat}{x:Value}(h:cs[o]?=some x):cs.setIfInBounds o x=cs:=by
 obtain⟨ho,hx⟩:=Array.getElem?_eq_some_iff.1 h
 apply Array.ext
 ·simp
 ·intro i h1 h2
  rw[Array.getElem_setIfInBounds (by simpa using h1)]
  split
  ·rename_i e;subst e;exact hx.symm
  ·rfl
theorem Ye3 (w:World)(B b o:Nat)(T:TypeId)(cs:Array Value)(v:Value)(xs:List Nat)(h:Bd w B b o T cs v xs)(hT:T≠5)
    (hl:liesAt prog prog.depth T (cs.size/prog.cellsOf T) o 84 1=true):
    ∃w0,Copied w w0 b o T cs∧w0.ownsRowF B 5 1 v xs.length (xs.map U)∧Calls prog 83 #[.pointer (some ⟨b,o,none⟩)] w fun e w'=>e=.returned (.tuple #[])∧w0=w':=by
 obtain⟨hb,ha,hbuf,hrow⟩:=h
 have hne:=Xnz hrow hb hT
 rcases ha with ha|ha
 ·exact⟨_,⟨Xd8 hb o _,rfl,rfl,rfl,by simp[World.setCell],fun k _ hk=>Xkr _ _ _ _ _ hk⟩,Xt8 hrow hne o _,(Ye2 w b o T cs hb ha hl).mono fun e w' ⟨h1,h2⟩=>⟨h1,h2.symm⟩⟩
 ·exact⟨w,⟨by rw[Ycy ha];exact hb,rfl,rfl,rfl,zL _,fun k _ _=>rfl⟩,hrow,Ye1 w b o T cs hb ha⟩
theorem Xj3 (w:World)(B b o:Nat)(T:TypeId)(cs:Array Value)(v:Value)(xs:List Nat)(s:ByteArray)(h:Bd w B b o T cs v xs)(hT:T≠5)(hBw:B≤w.heap.size)
    (hl:liesAt prog prog.depth T (cs.size/prog.cellsOf T) o 84 1=true) (hlen:xs.length+s.size≤140737488355328):
    Calls prog 40 #[.pointer (some ⟨b,o,none⟩),.string s] w fun e w'=>e=.returned (.tuple #[.int .i64 (s.size:Int),.nilIface])∧Ygn w B b o T cs v (xs++bs s) w':=by
 obtain⟨i0,hi0,hz0,hz1,hz2⟩:=info_parts Ykt
 obtain⟨w0,hcp,hrow0,hcall⟩:=Ye3 w B b o T cs v xs h hT hl
 obtain⟨hb,ha,hbuf,hrow⟩:=h
 have ho:o+1<cs.size:=(Array.getElem?_eq_some_iff.1 hbuf).1
 have hne:=Xnz hrow hb hT
 have fin:=fun(v':Value) (w1:World) hown1 hg hli=>Yfd (w:=w) (w0:=w0) (w1:=w1) (v':=v') (ys:=xs++bs s) (n:=xs.length+s.size) hT hBw hb ho hcp.heap hne hcp.same hown1 (by rw[List.length_append,Xaa]) hg hli
 have hsm:s.size≤9223372036854775807:=by omega
 have C1:=Hd hcall
 have hbs0:B≤w0.heap.size:=Nat.le_trans hBw hcp.same.2.2.2.1
 have hc1:w0.cell? ⟨b,o+1,none⟩=some v:=by rw[Xw3 hcp.heap,Array.getElem?_setIfInBounds_ne (by omega)];exact hbuf
 have FIN:=Hd fin;have HB0:=Hd hcp.heap;have HBF:=Hd hbuf
 clear hcp fin hb hbuf hl ha hcall
 go_enter func40,ntmps40
 go_wp2_with (first|(go_at_call 83;refine C1.o.mono ?_;rintro e w' ⟨rfl,rfl⟩)|(at_builtin;refine Xhk rfl _ _ _ _ rfl B 5 i0 underlying82 underlying9 hi0 hz0 hz1 hz2 v xs.length (xs.map U) rfl hrow0 s rfl hlen hbs0 ?_;intro v' w1 hown1 hgrow hli;obtain⟨a2,c2,rfl⟩:=Xv3 hown1;have hb1:=(hgrow.block b (zY HB0.o) (fun e=>hne e.symm)).trans HB0.o;have c1:=Xw3 hb1 (o+1);rw[Array.getElem?_setIfInBounds_ne (by omega),HBF.o] at c1;have f1:=Xdn hb1 (o+1);clear hb1))
 go_ret2
 refine⟨rfl,FIN.o _ _ ?_ hgrow hli⟩
 rw[List.map_append,←Xq8]
 exact hown1
theorem Yli:prog.cellsOf 5=1:=by kernel_rfl
theorem Xp9 {w:World}{g n:Nat}{cur:Array Value}{e:TypeId}{fz:Nat×Nat}(hg:w.heap[g]?=some (.cells cur e fz))(hn:n≠0)(hfz:fz.2≤n):
    ∃fz',(w.freeze ⟨g,0,none⟩ n).heap[g]?=some (.cells cur e fz')∧fz'.2≤n:=by
 obtain⟨lo,hi⟩:=fz
 simp only at hfz
 unfold World.freeze
 rw[qN hn]
 simp only[Array.getElem?_modify,hg,if_true,Option.map_some]
 refine⟨_,rfl,?_⟩
 split
 ·simp
 ·simp only[Nat.zero_add];omega
theorem Xi9 {w:World}{g n k:Nat}(h:k≠g):(w.freeze ⟨g,0,none⟩ n).heap[k]?=w.heap[k]?:=by
 unfold World.freeze
 split
 ·rfl
 ·simp only[Array.getElem?_modify]
  rw[qN (by omega)]
theorem Xr9 (w:World)(g n:Nat):(w.freeze ⟨g,0,none⟩ n).heap.size=w.heap.size:=by
 unfold World.freeze
 split
 ·rfl
 ·simp
theorem Ybo {w:World}{B b o T g n cap:Nat}{cs:Array Value}{xs:List Nat}(h:Bd w B b o T cs (.slice (some ⟨g,0,none⟩) n cap) xs)(hT:T≠5)(hn:n=xs.length)(h0:n≠0):
    Bd (w.freeze ⟨g,0,none⟩ n) B b o T cs (.slice (some ⟨g,0,none⟩) n cap) xs∧FrB b (.slice (some ⟨g,0,none⟩) n cap) w (w.freeze ⟨g,0,none⟩ n):=by
 have hne:=Xnz h.row h.heap hT
 have hgb:b≠g:=fun e=>hne (by simp[Value.ownBlock,e])
 refine⟨⟨(Xi9 hgb).trans h.heap,h.addr,h.buf,h.row.1,?_⟩,?_⟩
 ·rcases h.row.2 with⟨hv,_⟩|⟨g',cap',cur,fz,hv,hb,hg,hfz,r⟩
  ·simp at hv
  ·have hv':=hv
   simp only[Value.slice.injEq,Option.some.injEq,Addr.mk.injEq] at hv'
   obtain⟨⟨rfl,_⟩,_,rfl⟩:=hv'
   obtain⟨fz',h1,h2⟩:=Xp9 hg h0 (by rw[hn];simpa using hfz)
   exact .inr ⟨g,cap,cur,fz',hv,hb,h1,by rw[←hn];simpa using h2,r⟩
 ·refine⟨?_,?_,?_,by rw[Xr9];exact zL _,fun k _ _ h2=>Xi9 (fun e=>h2 (by simp[Value.ownBlock,e]))⟩<;>(unfold World.freeze;split<;>rfl)
theorem FrB.refl (b:Nat)(v:Value)(w:World):FrB b v w w:=⟨rfl,rfl,rfl,zL _,fun _ _ _ _=>rfl⟩
theorem Bd.drew {w:World}{B b o T:Nat}{cs:Array Value}{v:Value}{xs:List Nat}(h:Bd w B b o T cs v xs):Bd w.drew B b o T cs v xs:=⟨h.1,h.2,h.3,h.4⟩
theorem FrB.drew {b:Nat}{v:Value}{w w':World}(h:FrB b v w w'):FrB b v w w'.drew:=⟨h.1,h.2,h.3,h.4,h.5⟩
theorem Xv4 {w:World}{base e size n:Nat}{v:Value}{xs:List Value}(h:w.ownsRowF base e size v n xs)(o:Obj):(w.alloc o).ownsRowF base e size v n xs:=
 h.kept (World.grownBy_alloc w o none) (by cases hv:v.ownBlock<;>simp)
theorem Bd.alloc {w:World}{B b o T:Nat}{cs:Array Value}{v:Value}{xs:List Nat}(h:Bd w B b o T cs v xs)(x:Obj):Bd (w.alloc x) B b o T cs v xs:=⟨Xae h.1,h.2,h.3,Xv4 h.4 x⟩
theorem FrB.alloc {b:Nat}{v:Value}{w w':World}(h:FrB b v w w')(x:Obj):FrB b v w (w'.alloc x):=⟨h.1,h.2,h.3,by have:=h.4;simp;omega,fun k hk h1 h2=>(Below.heap_alloc w' x k (Nat.lt_of_lt_of_le hk h.4)).trans (h.5 k hk h1 h2)⟩
def Yjc (w:World)(B b o:Nat)(T:TypeId)(cs:Array Value)(v:Value)(xs:List Nat)(e:Ending)(w':World):Prop:=
 e=.returned (.string (Xaq xs))∧Bd w' B b o T cs v xs∧FrB b v w w'
theorem Xsy (w:World)(B b o:Nat)(T:TypeId)(cs:Array Value)(v:Value)(xs:List Nat)(h:Bd w B b o T cs v xs)(hT:T≠5)(hx:∀x∈xs,x<256)(hlen:xs.length≤140737488355328):
    Calls prog 41 #[.pointer (some ⟨b,o,none⟩)] w (Yjc w B b o T cs v xs):=by
 have hc1:=Xw3 h.heap (o+1)
 rw[h.buf] at hc1
 rcases h.row.2 with⟨rfl,h0⟩|⟨g,cap,cur,fz,rfl,hbg,hg,hfz,hnc,hcm,hcs,htake⟩
 ·obtain rfl:xs=[]:=List.eq_nil_of_length_eq_zero h0
  have H:=Hd h
  have s1:=fun(w:World)=>Lib.run_unsafeSliceData_nil (P:=prog) w #[82] 130 0 0
  have s2:=fun(w:World)=>Lib.run_unsafeString_none (P:=prog) w 130 3 9 none
  clear h
  go_enter func41,ntmps41
  go_wp2_with fail
  go_region
  all_goals go_wp2_with fail
  all_goals go_ret
  all_goals exact⟨rfl,H.o.drew,(FrB.refl _ _ _).drew⟩
 ·obtain⟨n,hn⟩:=xq xs.length
  rw[←hn] at hc1 h⊢
  by_cases h0:n=0
  ·obtain rfl:xs=[]:=List.eq_nil_of_length_eq_zero (by omega)
   subst h0
   have H:=Hd h
   have s2:=fun(w:World) (p:Option Addr)=>Lib.run_unsafeString_none (P:=prog) w 130 3 9 p
   by_cases hc0:cap=0
   ·subst hc0
    have s1:=Lib.run_unsafeSliceData_zero (P:=prog) w.drew #[82] 130 5 underlying130 ⟨g,0,none⟩ 0 _ (Xtt (w:=w.drew) hg)
    have h1':=Xw3 (w:=w.alloc (.view ⟨g,0,none⟩ 5)) (Xae h.heap) (o+1)
    rw[h.buf] at h1'
    clear h hg hcs htake hfz hnc hcm hn
    go_enter func41,ntmps41
    go_wp2_with fail
    go_region
    all_goals go_wp2_with fail
    all_goals go_ret
    all_goals exact⟨rfl,(H.o.alloc _).drew,((FrB.refl _ _ _).alloc _).drew⟩
   ·have s1:=fun(w:World)=>Lib.run_unsafeSliceData_row (P:=prog) w #[82] 130 ⟨g,0,none⟩ 0 cap hc0
    clear h hg hcs htake hfz hnc hcm hn
    go_enter func41,ntmps41
    go_wp2_with fail
    go_region
    all_goals go_wp2_with fail
    all_goals go_ret
    all_goals exact⟨rfl,H.o.drew,(FrB.refl _ _ _).drew⟩
  ·have H:=Hd (Ybo h.drew hT hn h0)
   have s1:=fun(w:World)=>Lib.run_unsafeSliceData_row (P:=prog) w #[82] 130 ⟨g,0,none⟩ n cap (by omega)
   have hl:(xs.map UInt8.ofNat).length=n:=by rw[List.length_map,hn]
   have s2:(Builtin.unsafeString_ #[130,3] 9 #[.pointer (some ⟨g,0,none⟩),.int .i64 (n:Int)]).run prog w.drew=.ok (.string (Xaq xs)) (w.drew.freeze ⟨g,0,none⟩ n):=by
    have hs:=Lib.run_unsafeString_row (P:=prog) w.drew 130 3 9 5 underlying130 Yli g cur.size (Xtt hg) (xs.map UInt8.ofNat) (by intro e;rw[e] at hl;simp at hl;omega) (by rw[hl,hcs];omega) (by rw[hl];omega) ?_
    ·rw[hl] at hs
     exact hs
    ·intro j x hj
     have hjl:j<xs.length:=by have:=(List.getElem?_eq_some_iff.1 hj).1;simpa using this
     have hc:=h.row.cells (g:=g) rfl j (U xs[j]) (by rw[List.getElem?_map,List.getElem?_eq_getElem hjl];rfl)
     rw[List.getElem?_map,List.getElem?_eq_getElem hjl] at hj
     simp only[Option.map_some,Option.some.injEq] at hj
     subst hj
     have hx1:=hx _ (zG hjl)
     have e2:(UInt8.ofNat xs[j]).toNat=xs[j]:=Nat.mod_eq_of_lt hx1
     rw[e2]
     exact hc
   have hn63:n≤9223372036854775807:=by omega
   clear h hl hcs htake hg hfz hnc hcm hn hx
   go_enter func41,ntmps41
   go_wp2_with fail
   go_region
   all_goals go_wp2_with fail
   all_goals go_ret
   all_goals exact⟨rfl,H.o.1,⟨H.o.2.1,H.o.2.2,H.o.2.3,H.o.2.4,H.o.2.5⟩⟩
section
variable {P:Program} {ops:Array Oper} {rest:List Oper} {o:Oper} {a:Act} {w w':World} {Q:Exit→Act→World→Prop} {v:Value}
theorem Xas (hgd:o.guard=none)(h:(execOp a.eval o).run P w=.ok (.value v) w')(hk:wpList P ops Q rest (a.put o.dst v) w'):wpList P ops Q (o::rest) a w:=
 wpList_plain hgd fun K hK=>by unfold Oper.wp;rw[h];exact hK _ _ hk
theorem Xfn (hgd:o.guard=none)(h:(execOp a.eval o).run P w=.ok .skip w')(hk:wpList P ops Q rest (a.put o.dst undef) w'):wpList P ops Q (o::rest) a w:=
 wpList_plain hgd fun K hK=>by unfold Oper.wp;rw[h];exact hK _ _ hk
theorem Xko {C:World→Prop}{K:Act→Prop}(h:∀w,C w→(execOp a.eval o).run P w=.ok (.value v) w)(hk:K (a.put o.dst v)):o.quiet P a C K:=
 ⟨v,fun w hw=>by unfold Oper.quietAt;rw[h w hw];exact⟨rfl,rfl⟩,hk⟩
theorem Xai {ty:TypeId}{x:Operand}{ad:Addr}(ho:o.op=.load ty x)(hx:a.eval x=.pointer (some ad))(hl:(loadVar ty ad).run P w=.ok v w):(execOp a.eval o).run P w=.ok (.value v) w:=by
 unfold execOp
 simp only[ho,hx,Instr.loadAt,Instr.sureAddr,Sem.run_bind,Sem.run_pure,Result.andThen_ok,hl]
theorem Xc1 {t:TypeId}{ps:Array (Nat×Operand)}(ho:o.op=.build t ps)(hb:(Instr.build t (ps.map fun(i,x)=>(i,a.eval x))).run P w=.ok v w):(execOp a.eval o).run P w=.ok (.value v) w:=by
 unfold execOp
 simp only[ho,Sem.run_bind,Sem.run_pure,Result.andThen_ok,hb]
theorem Xar {t:TypeId}{x y:Operand}{ad:Addr}{u:Value}(ho:o.op=.store t x y)(hx:a.eval x=.pointer (some ad))(hy:a.eval y=u)(hs:(storeVar t ad u).run P w=.ok () w'):(execOp a.eval o).run P w=.ok .skip w':=by
 unfold execOp
 simp only[ho,hx,hy,Instr.storeAt,Instr.sureAddr,Sem.run_bind,Sem.run_pure,Result.andThen_ok,hs]
theorem Xh1 {t t':TypeId}{x y:Operand}{xs ys:Array Value}{r:Bool}(ho:o.op=.binOp .eql t x y t')(hx:a.eval x=.agg xs)(hy:a.eval y=.agg ys)(hm:P.eqGuardType P.depth t=false)(he:(Op.equal t (.agg xs) (.agg ys)).run P w=.ok r w):(execOp a.eval o).run P w=.ok (.value (.bool r)) w:=by
 unfold execOp
 simp only[ho,hx,hy,Sem.run_bind,Sem.run_pure,Result.andThen_ok,run_eqGuard_agg w _ _ _ _ _ _ hm,binOp,he]
theorem Xoc {t t':TypeId}{x y:Operand}{xs ys:Array Value}{r:Bool}(ho:o.op=.binOp .neq t x y t')(hx:a.eval x=.agg xs)(hy:a.eval y=.agg ys)(hm:P.eqGuardType P.depth t=false)(he:(Op.equal t (.agg xs) (.agg ys)).run P w=.ok r w):(execOp a.eval o).run P w=.ok (.value (.bool !r)) w:=by
 unfold execOp
 simp only[ho,hx,hy,Sem.run_bind,Sem.run_pure,Result.andThen_ok,run_eqGuard_agg w _ _ _ _ _ _ hm,binOp,he]
theorem Xff (w:World)(g off:Nat)(t ty:TypeId)(cs ids:Array Value)(fr:Nat×Nat)(d:TypeDesc)(hg:w.heap[g]?=some (.cells cs t fr))
    (hu:P.underlying ty=some d) (hd:(match d with|.struct _|.array _ _=>true|_=>false)=true) (hi:(P.info? ty).map (·.size)=some ids.size)
    (hp:∀j u,ids[j]?=some u→cs[off+j]?=some u):(loadVar ty ⟨g,off,none⟩).run P w=.ok (.agg ids) w:=by
 have hl:(loadCells ⟨g,off,none⟩ ids.toList.length).run P w=.ok ids.toList.toArray w:=
  run_loadCells_list (P:=P) w ⟨g,off,none⟩ ids.toList (fun j u hv=>by
   have hadd:(⟨g,off,none⟩:Addr).add j=⟨g,off+j,none⟩:=by unfold Addr.add;split<;>simp_all
   rw[hadd,cell_of_row w g (off+j) cs t fr hg]
   exact hp j u (by simpa using hv))
 cases hq:P.info? ty with
 |none=>simp[hq] at hi
 |some i=>
  have hs:i.size=ids.size:=by simpa [hq] using hi
  have hagg:(isAgg ty).run P w=.ok true w:=by
   unfold isAgg
   rw[Sem.run_bind,run_underlying hu w]
   cases d<;>simp_all
  simp only[Array.length_toList,Array.toArray_toList] at hl
  simp[loadVar,Sem.run_bind,hagg,sizeOf,typeInfo,hq,hs,hl]
end
def idA (l:List Nat):Array Value:=(l.map U).toArray
structure IdOk (l:List Nat):Prop where
 len:l.length=32
 lt:∀x∈l,x<256
theorem Xag (l:List Nat):(idA l).size=l.length:=by simp[idA]
theorem Ylt (xs:List Value)(l:List Nat)(ys:List Value)(n:Nat)(h:xs.length=n):∀j u,(idA l)[j]?=some u→(xs++l.map U++ys).toArray[n+j]?=some u:=by
 intro j u hu
 subst h
 unfold idA at hu
 rw[List.getElem?_toArray] at hu⊢
 have hj:=(List.getElem?_eq_some_iff.1 hu).1
 rw[List.append_assoc,List.getElem?_append_right (by omega),Nat.add_sub_cancel_left,List.getElem?_append_left hj]
 exact hu
theorem Xa3:(prog.info? 26).map (·.size)=some 32:=by kernel_rfl
theorem Xkx (w:World)(g off:Nat)(t:TypeId)(cs:Array Value)(fr:Nat×Nat){l:List Nat}(h:l.length=32)(hg:w.heap[g]?=some (.cells cs t fr))(hp:∀j u,(idA l)[j]?=some u→cs[off+j]?=some u):
    Ld 26 ⟨g,off,none⟩ w (.agg (idA l)):=
 Xff w g off t 26 cs (idA l) fr _ hg underlying26 rfl (by rw[Xag,h];exact Xa3) hp
theorem Xkw {α β:Type}(f:α→Option β)(g:α→β):∀(L:List α),(∀i∈L,f i=some (g i))→L.mapM f=some (L.map g)
 |[],_=>rfl
 |x::L,h=>by
  rw[List.mapM_cons,h x (by simp),Xkw f g L (fun i hi=>h i (by simp[hi]))]
  rfl
theorem Xol:prog.cellsOf 26=32:=by kernel_rfl
theorem Ygj:prog.cellsOf 5=1:=by kernel_rfl
def Xcn (l:List Nat):List Lit:=l.map fun n:Nat=>Lit.int .u8 (n:Int)
theorem Xf0 {l m:List Nat}(h:Xcn l=Xcn m):l=m:=by
 unfold Xcn at h
 exact(List.map_inj_right (fun a b hab=>by simp at hab;omega)).1 h
section
variable {P:Program} {d n:Nat} {t e:TypeId} {cs:List Value} {fs:Array Field} {q:IntKind}
theorem Xhu (hu:P.underlying t=some (.array n e)):P.keyLits (d+1) t cs=if cs.length=P.cellsOf t then((List.range n).mapM fun i=>P.keyLits d e ((cs.drop (i*P.cellsOf e)).take (P.cellsOf e))).map List.flatten else none:=by
 rw[Program.keyLits.eq_def];simp only[hu]
theorem Xl8 (hu : P.underlying t = some (.struct fs)) : P.keyLits (d + 1) t cs = if cs.length = P.cellsOf t ∧ fs.all (·.name != "_") = true then (fs.toList.mapM fun f => P.keyLits d f.type ((cs.drop f.offset).take (P.cellsOf f.type))).map List.flatten else none := by
  rw[Program.keyLits.eq_def];simp only[hu]
theorem Xhb (hu:P.underlying t=some (.int q)){m:Int}(hw:(Lit.int q m).wf=true):P.keyLits (d+1) t [.int q m]=some [.int q m]:=by
 rw[Program.keyLits.eq_def];simp only[hu,hw,and_self,if_true]
end
theorem Xrv (D:Nat){l:List Nat}(h:IdOk l):prog.keyLits (D+2) 26 (l.map U)=some (Xcn l):=by
 rw[Xhu underlying26,qP (by rw[List.length_map,h.len,Xol])]
 rw[Xkw _ (fun i=>[Lit.int .u8 (l.getD i 0:Int)])]
 ·simp only[Option.map_some,Option.some.injEq]
  unfold Xcn
  have:(List.range 32).map (fun i=>[Lit.int .u8 (l.getD i 0:Int)])=(l.map fun n:Nat=>[Lit.int .u8 (n:Int)]):=by
   apply List.ext_getElem
   ·simp[h.len]
   ·intro i h1 h2
    simp at h1
    simp[List.getD,List.getElem?_eq_getElem (show i<l.length by rw[h.len];exact h1)]
  rw[this]
  clear this h
  induction l with
  |nil=>rfl
  |cons x l ih=>simp[ih]
 ·intro i hi
  have hi':i<l.length:=by rw[h.len];exact List.mem_range.1 hi
  have hx:=h.lt _ (zG hi')
  have e:((l.map U).drop (i*prog.cellsOf 5)).take (prog.cellsOf 5)=[Value.int .u8 (l[i]:Int)]:=by
   rw[Ygj,Nat.mul_one,List.drop_eq_getElem_cons (by simpa using hi')]
   simp[U]
  rw[e,Xhb underlying5 (by simp[Lit.wf,IntKind.min,IntKind.max,IntKind.signed,IntKind.bits];omega)]
  simp[List.getD,List.getElem?_eq_getElem hi']
theorem Xqd (w:World){l m:List Nat}(hl:IdOk l)(hm:IdOk m):(Op.equal 26 (.agg (idA l)) (.agg (idA m))).run prog w=.ok (decide (l=m)) w:=by
 obtain⟨r,hr,hiff⟩:=run_equalIn_deep (P:=prog) 9997 3 26 (by kernel_rfl) w 2 2 (.agg (idA l)) (.agg (idA m)) (Xcn l) (Xcn m) (by simp[Value.formed,underlying26,Xol,Xag,hl.len]) (by simp[Value.formed,underlying26,Xol,Xag,hm.len]) (Xrv 0 hl) (Xrv 0 hm)
 have e:r=decide (l=m):=by
  rw[Bool.eq_iff_iff,hiff,decide_eq_true_iff]
  exact⟨Xf0,fun e=>by rw[e]⟩
 rw[←e]
 exact hr
theorem Xeo:prog.eqGuardType prog.depth 26=false:=by kernel_rfl
theorem Xhd (l:List Nat):∀j u,(idA l)[j]?=some u→(idA l)[0+j]?=some u:=fun j u hu=>by rw[Nat.zero_add];exact hu
theorem Xsc {P:Program}{o:Oper}{a:Act}{w:World}{v:Value}{t:TypeId}{i j:Nat}{x y:Operand}{vx vy:Value}(ho:o.op=.build t #[(i,x),(j,y)])(hx:a.eval x=vx)(hy:a.eval y=vy)(hb:(Instr.build t #[(i,vx),(j,vy)]).run P w=.ok v w):(execOp a.eval o).run P w=.ok (.value v) w:=by
 refine Xc1 ho ?_
 simpa [hx,hy] using hb
section
variable {P:Program} {ops:Array Oper} {rest:List Oper} {o:Oper} {a:Act} {w:World} {Q:Exit→Act→World→Prop}
theorem Xac (ty:TypeId)(hgd:o.guard=none)(x:Operand)(ho:o.op=.load ty x)(h:∃ad v,a.eval x=.pointer (some ad)∧(loadVar ty ad).run P w=.ok v w∧wpList P ops Q rest (a.put o.dst v) w):wpList P ops Q (o::rest) a w:=by
 obtain⟨ad,v,h1,h2,h3⟩:=h
 exact Xas hgd (Xai ho h1 h2) h3
theorem Xhj (t:TypeId)(hgd:o.guard=none){i j:Nat}(x y:Operand)(ho:o.op=.build t #[(i,x),(j,y)])(h:∃vx vy v,a.eval x=vx∧a.eval y=vy∧(Instr.build t #[(i,vx),(j,vy)]).run P w=.ok v w∧wpList P ops Q rest (a.put o.dst v) w):wpList P ops Q (o::rest) a w:=by
 obtain⟨vx,vy,v,h1,h2,h3,h4⟩:=h
 exact Xas hgd (Xsc ho h1 h2 h3) h4
theorem Xab (t:TypeId)(hgd:o.guard=none)(x y:Operand)(ho:o.op=.store t x y)(h:∃ad u w',a.eval x=.pointer (some ad)∧a.eval y=u∧(storeVar t ad u).run P w=.ok () w'∧wpList P ops Q rest (a.put o.dst undef) w'):wpList P ops Q (o::rest) a w:=by
 obtain⟨ad,u,w',h1,h2,h3,h4⟩:=h
 exact Xfn hgd (Xar ho h1 h2 h3) h4
theorem Xmf (t:TypeId)(hgd:o.guard=none)(x y:Operand){t':TypeId}(ho:o.op=.binOp .neq t x y t')(hm:P.eqGuardType P.depth t=false)(h:∃xs ys r,a.eval x=.agg xs∧a.eval y=.agg ys∧(Op.equal t (.agg xs) (.agg ys)).run P w=.ok r w∧wpList P ops Q rest (a.put o.dst (.bool !r)) w):wpList P ops Q (o::rest) a w:=by
 obtain⟨xs,ys,r,h1,h2,h3,h4⟩:=h
 exact Xas hgd (Xoc ho h1 h2 hm h3) h4
theorem Xdb (t:TypeId)(hgd:o.guard=none)(x y:Operand){t':TypeId}(ho:o.op=.binOp .eql t x y t')(hm:P.eqGuardType P.depth t=false)(h:∃xs ys r,a.eval x=.agg xs∧a.eval y=.agg ys∧(Op.equal t (.agg xs) (.agg ys)).run P w=.ok r w∧wpList P ops Q rest (a.put o.dst (.bool r)) w):wpList P ops Q (o::rest) a w:=by
 obtain⟨xs,ys,r,h1,h2,h3,h4⟩:=h
 exact Xas hgd (Xh1 ho h1 h2 hm h3) h4
theorem Xi0 {Q:Act→Prop}(ty:TypeId)(hgd:o.guard=none)(x:Operand)(ho:o.op=.load ty x)(h:∃ad v,a.eval x=.pointer (some ad)∧(loadVar ty ad).run P w=.ok v w∧wpStill P ops w Q rest (a.put o.dst v)):wpStill P ops w Q (o::rest) a:=by
 obtain⟨ad,v,h1,h2,h3⟩:=h
 refine wpStill_step fun K hK=>?_
 rw[qP (by simp[Region.wanted,hgd])]
 unfold Oper.still
 rw[Xai ho h1 h2]
 exact⟨rfl,hK _ h3⟩
theorem Xc0 {Q:Act→Prop}{C:World→Prop}(ty:TypeId)(hgd:Region.wanted o (yielded ops a.tmps)=true)(x:Operand)(ho:o.op=.load ty x)(h:∃ad v,a.eval x=.pointer (some ad)∧(∀w,C w→(loadVar ty ad).run P w=.ok v w)∧wpQuiet P ops C Q rest (a.put o.dst v)):wpQuiet P ops C Q (o::rest) a:=by
 obtain⟨ad,v,h1,h2,h3⟩:=h
 exact BigFrame.wpQuiet_want hgd fun K hK=>Xko (fun w hw=>Xai ho h1 (h2 w hw)) (hK _ h3)
theorem Xj5 {Q:Act→Prop}{C:World→Prop}(t:TypeId)(hgd:Region.wanted o (yielded ops a.tmps)=true)(x y:Operand){t':TypeId}(ho:o.op=.binOp .neq t x y t')(hm:P.eqGuardType P.depth t=false)(h:∃xs ys r,a.eval x=.agg xs∧a.eval y=.agg ys∧(∀w,(Op.equal t (.agg xs) (.agg ys)).run P w=.ok r w)∧wpQuiet P ops C Q rest (a.put o.dst (.bool !r))):wpQuiet P ops C Q (o::rest) a:=by
 obtain⟨xs,ys,r,h1,h2,h3,h4⟩:=h
 exact BigFrame.wpQuiet_want hgd fun K hK=>Xko (fun w hw=>Xoc ho h1 h2 hm (h3 w)) (hK _ h4)
theorem Xq2 {Q:Act→Prop}{C:World→Prop}(t:TypeId)(hgd:Region.wanted o (yielded ops a.tmps)=true)(x y:Operand){t':TypeId}(ho:o.op=.binOp .eql t x y t')(hm:P.eqGuardType P.depth t=false)(h:∃xs ys r,a.eval x=.agg xs∧a.eval y=.agg ys∧(∀w,(Op.equal t (.agg xs) (.agg ys)).run P w=.ok r w)∧wpQuiet P ops C Q rest (a.put o.dst (.bool r))):wpQuiet P ops C Q (o::rest) a:=by
 obtain⟨xs,ys,r,h1,h2,h3,h4⟩:=h
 exact BigFrame.wpQuiet_want hgd fun K hK=>Xko (fun w hw=>Xh1 ho h1 h2 hm (h3 w)) (hK _ h4)
end
def BoxI (w:World)(b:Nat)(n:Nat):Prop:=w.heap[b]?=some (.cells #[.int .i64 n] 3 (0,0))
structure RG (B fr tt pf bits count:Nat) (xs:List Nat) (w:World):Prop where
 bBits:BoxI w (B+5) bits
 bFrom:BoxI w (B+2) fr
 bCount:BoxI w (B+6) count
 bTo:BoxI w (B+3) tt
 bPass:w.heap[B+4]?=some (.cells #[.func (.func pf) #[] #[.pointer (some ⟨B+1,0,none⟩)]] 183 (0,0))
 txt:∃v,w.heap[B+1]?=some (.cells #[v] 82 (0,0))∧w.ownsRow B 5 1 v xs.length (xs.map U)
def Xu7 (w0:World)(B pf m:Nat)(f:Nat→Nat):Prop:=
 ∀(w:World) (v:Value) (xs:List Nat) (g:Nat),Below B w0 w→w.heap[B+1]?=some (.cells #[v] 82 (0,0))→w.ownsRow B 5 1 v xs.length (xs.map U)→xs.length≤1000000→g<m→
  Calls prog pf #[.int .i64 g,.pointer (some ⟨B+1,0,none⟩)] w fun e w'=>e=.returned (.tuple #[])∧
   (∃v',w'.heap[B+1]?=some (.cells #[v'] 82 (0,0))∧w'.ownsRow B 5 1 v' (xs.length+1) ((xs++[f g]).map U))∧Frame1 B (B+1) v w w'
theorem Xs0 (a b:Nat)(ha:a<9223372036854775808)(hb:b<9223372036854775808):bits .or .i64 (a:Int) (b:Int)=((a|||b:Nat):Int):=by
 have hx:a|||b<2^63:=Nat.or_lt_two_pow (by omega) (by omega)
 have h1:(BitVec.ofInt 64 (a:Int)).toNat=a:=by
  rw[BitVec.ofInt_natCast,BitVec.toNat_ofNat];exact Nat.mod_eq_of_lt (by omega)
 have h2:(BitVec.ofInt 64 (b:Int)).toNat=b:=by
  rw[BitVec.ofInt_natCast,BitVec.toNat_ofNat];exact Nat.mod_eq_of_lt (by omega)
 show IntKind.i64.wrap ((BitVec.ofInt 64 (a:Int)|||BitVec.ofInt 64 (b:Int)).toNat:Int)=_
 rw[BitVec.toNat_or,h1,h2,IntKind.wrap_i64]
 omega
theorem Xqu (a b:Nat)(ha:a<9223372036854775808)(hb:b<9223372036854775808):bits .and .i64 (a:Int) (b:Int)=((a&&&b:Nat):Int):=by
 have hx:a&&&b<2^63:=Nat.and_lt_two_pow _ (by omega)
 have h1:(BitVec.ofInt 64 (a:Int)).toNat=a:=by
  rw[BitVec.ofInt_natCast,BitVec.toNat_ofNat];exact Nat.mod_eq_of_lt (by omega)
 have h2:(BitVec.ofInt 64 (b:Int)).toNat=b:=by
  rw[BitVec.ofInt_natCast,BitVec.toNat_ofNat];exact Nat.mod_eq_of_lt (by omega)
 show IntKind.i64.wrap ((BitVec.ofInt 64 (a:Int)&&&BitVec.ofInt 64 (b:Int)).toNat:Int)=_
 rw[BitVec.toNat_and,h1,h2,IntKind.wrap_i64]
 omega
theorem Xnc {n:Int}(h0:0≤n)(h1:n≤9223372036854775807):wrap64 n=n:=by unfold wrap64;omega
theorem Xt9 (b fr g:Nat)(hb:b<256)(hfr:fr≤8)(hg:g<2^fr):bits .or .i64 (wrap64 ((b:Int)*2^fr)) (g:Int)=((b*2^fr+g:Nat):Int):=by
 have hp:2^fr≤2^8:=Nat.pow_le_pow_right (by omega) hfr
 have hm:b*2^fr≤256*256:=Nat.mul_le_mul (by omega) (by omega)
 have e:((b:Int)*2^fr)=((b*2^fr:Nat):Int):=by push_cast;rfl
 rw[e,Xnc (by omega) (by omega),Xs0 _ _ (by omega) (by omega)]
 congr 1
 have:=Nat.shiftLeft_add_eq_or_of_lt hg b
 rw[Nat.shiftLeft_eq] at this
 exact this.symm
theorem Yfj (b c:Nat)(hb:b<65536)(hc:c≤16):bits .and .i64 (b:Int) (2^c-1)=((b%2^c:Nat):Int):=by
 have hp:2^c≤2^16:=Nat.pow_le_pow_right (by omega) hc
 have h1:0<2^c:=Nat.pow_pos (by omega)
 have e:((2:Int)^c-1)=((2^c-1:Nat):Int):=by rw[Int.ofNat_sub h1];push_cast;rfl
 rw[e,Xqu _ _ (by omega) (by omega),Nat.and_two_pow_sub_one_eq_mod]
theorem Xqx (b d:Nat)(hb:b<65536)(hc:d≤16):bits .and .i64 (b:Int) (wrap64 (wrap64 (2^d)-1))=((b%2^d:Nat):Int):=by
 have hp:2^d≤2^16:=Nat.pow_le_pow_right (by omega) hc
 have h1:0<2^d:=Nat.pow_pos (by omega)
 have e:((2:Int)^d)=((2^d:Nat):Int):=by push_cast;rfl
 rw[Xnc (n:=2^d) (by rw[e];omega) (by rw[e];omega),Xnc (by rw[e];omega) (by rw[e];omega)]
 exact Yfj b d hb hc
theorem BoxI.same {w w':World}{b n:Nat}(h:BoxI w b n)(e:w'.heap[b]?=w.heap[b]?):BoxI w' b n:=e.trans h
theorem BoxI.set {w:World}{b n m:Nat}(h:BoxI w b n):BoxI (w.setCell ⟨b,0,none⟩ (.int .i64 m)) b m:=one_setCell h
theorem BoxI.other {w:World}{b n:Nat}{a:Addr}{u:Value}(h:BoxI w b n)(ha:b≠a.block):BoxI (w.setCell a u) b n:=h.same (Below.heap_setCell _ _ _ _ ha)
theorem RG.setBits {B fr tt pf b c:Nat}{xs:List Nat}{w:World}(h:RG B fr tt pf b c xs w)(b':Nat):RG B fr tt pf b' c xs (w.setCell ⟨B+5,0,none⟩ (.int .i64 b')):=by
 obtain⟨h1,h2,h3,h4,h5,v,h6,h7⟩:=h
 exact⟨h1.set,h2.other (by simp),h3.other (by simp),h4.other (by simp),(Below.heap_setCell _ _ _ _ (by simp)).trans h5,v,(Below.heap_setCell _ _ _ _ (by simp)).trans h6,ownsRow_setCell_other h7 (Xec (b:=B+5) (t:=3) h7 h1 (by decide)) _⟩
theorem RG.setCount {B fr tt pf b c:Nat}{xs:List Nat}{w:World}(h:RG B fr tt pf b c xs w)(c':Nat):RG B fr tt pf b c' xs (w.setCell ⟨B+6,0,none⟩ (.int .i64 c')):=by
 obtain⟨h1,h2,h3,h4,h5,v,h6,h7⟩:=h
 exact⟨h1.other (by simp),h2.other (by simp),h3.set,h4.other (by simp),(Below.heap_setCell _ _ _ _ (by simp)).trans h5,v,(Below.heap_setCell _ _ _ _ (by simp)).trans h6,ownsRow_setCell_other h7 (Xec (b:=B+6) (t:=3) h7 h3 (by decide)) _⟩
theorem RG.drew {B fr tt pf b c:Nat}{xs:List Nat}{w:World}(h:RG B fr tt pf b c xs w):RG B fr tt pf b c xs w.drew:=⟨h.1,h.2,h.3,h.4,h.5,h.6⟩
theorem RG.below {B fr tt pf b c:Nat}{xs:List Nat}{w w':World}(h:RG B fr tt pf b c xs w)(hb:Bw w w'):RG B fr tt pf b c xs w':=by
 obtain⟨h1,h2,h3,h4,h5,v,h6,h7⟩:=h
 refine⟨h1.same (hb.block _ (zY h1)),h2.same (hb.block _ (zY h2)),h3.same (hb.block _ (zY h3)),h4.same (hb.block _ (zY h4)),(hb.block _ (zY h5)).trans h5,v,(hb.block _ (zY h6)).trans h6,h7.1,?_⟩
 rcases h7.2 with h|⟨g,cap,cur,hv,hg,hh,r⟩
 ·exact .inl h
 ·exact .inr ⟨g,cap,cur,hv,hg,(hb.block _ (zY hh)).trans hh,r⟩
theorem RG.passed {B fr tt pf b c:Nat}{xs:List Nat}{z:Nat}{w w':World}{v:Value}(h:RG B fr tt pf b c xs w)(hown:w.ownsRow B 5 1 v xs.length (xs.map U))
    (hn:∃v',w'.heap[B+1]?=some (.cells #[v'] 82 (0,0))∧w'.ownsRow B 5 1 v' (xs.length+1) ((xs++[z]).map U)) (hf:Frame1 B (B+1) v w w'):RG B fr tt pf b c (xs++[z]) w':=by
 obtain⟨h1,h2,h3,h4,h5,_⟩:=h
 exact⟨h1.same (hf.other _ (zY h1) (by omega) (Xec (t:=3) hown h1 (by decide))),h2.same (hf.other _ (zY h2) (by omega) (Xec (t:=3) hown h2 (by decide))),h3.same (hf.other _ (zY h3) (by omega) (Xec (t:=3) hown h3 (by decide))),h4.same (hf.other _ (zY h4) (by omega) (Xec (t:=3) hown h4 (by decide))),
  (hf.other _ (zY h5) (by omega) (Xec hown h5 (by decide))).trans h5,by rw[List.length_append];exact hn⟩
theorem Ynp (w0 w:World)(B fr tt bits count g:Nat)(f:Nat→Nat)(xs:List Nat)(h:RG B fr tt 231 bits count xs w)(hb:Below B w0 w)(hp:Xu7 w0 B 231 (2^tt) f)
    (hfr:fr≤8) (htt:1≤tt) (htt8:tt≤8) (hc:count<tt) (hbits:bits<2^count) (hg:g<2^fr) (hn:xs.length≤900000):
    Calls prog 261 #[.int .i64 g,.pointer (some ⟨B+5,0,none⟩),.pointer (some ⟨B+2,0,none⟩),.pointer (some ⟨B+6,0,none⟩),.pointer (some ⟨B+3,0,none⟩),.pointer (some ⟨B+4,0,none⟩)] w fun e w'=>
     e=.returned (.tuple #[])∧Below B w0 w'∧KM w w'∧∃b c ys,Xb5 f tt 16 (bits*2^fr+g) (count+fr) xs=(b,c,ys)∧RG B fr tt 231 b c ys w':=by
 have c5:=cell_of_one h.bBits
 have c2:=cell_of_one h.bFrom
 have c6:=cell_of_one h.bCount
 have f5:=free_of_one h.bBits
 have f6:=free_of_one h.bCount
 have hp1:2^count≤2^8:=Nat.pow_le_pow_right (by omega) (by omega)
 have hp2:2^fr≤2^8:=Nat.pow_le_pow_right (by omega) (by omega)
 have bd0:=Xjv hbits hg
 have b1:bits<256:=by omega
 have b2:g<256:=by omega
 obtain⟨x,hx⟩:=xq (bits*2^fr+g)
 obtain⟨y,hy⟩:=xq (count+fr)
 have hy16:y<16:=by omega
 have ey:(count:Int)+(fr:Int)=(y:Int):=by omega
 have e0:Go.bits .or .i64 (wrap64 ((bits:Int)*2^fr)) (g:Int)=(x:Int):=by rw[hx];exact Xt9 bits fr g b1 hfr hg
 have r0:RG B fr tt 231 x y xs (((w.setCell ⟨B+5,0,none⟩ (.int .i64 (x:Int))).setCell ⟨B+6,0,none⟩ (.int .i64 (y:Int))).drew):=((h.setBits _).setCount _).drew
 have q0:Below B w0 (((w.setCell ⟨B+5,0,none⟩ (.int .i64 (x:Int))).setCell ⟨B+6,0,none⟩ (.int .i64 (y:Int))).drew):=((hb.setCell (by simp) _).setCell (by simp) _).drew
 have bd:x<2^y:=by rw[hx,hy];exact bd0
 rw[←hx,←hy]
 have k0:KM w (((w.setCell ⟨B+5,0,none⟩ (.int .i64 (x:Int))).setCell ⟨B+6,0,none⟩ (.int .i64 (y:Int))).drew):=((KM.setCell h.bBits 0 _).trans (KM.setCell (h.setBits x).bCount 0 _)).drew
 have K0:=Hd k0
 clear k0
 have HP:=Hd hp;have R0:=Hd r0;have Q0:=Hd q0;have BD:=Hd bd
 clear hp h hb hp1 hp2 r0 q0 bd hbits hg hx hy bd0
 go_enter func261,ntmps261
 go_wp2_with fail
 go_region
 all_goals go_wp2_with fail
 go_loopg [] 16 (fun k wr=>∃b c ys,RG B fr tt 231 b c ys wr∧Below B w0 wr∧KM w wr∧b<2^c∧c≤k∧c<16∧ys.length+c≤900000+16∧Xb5 f tt k b c ys=Xb5 f tt 16 x y xs)
 case atStart=>exact⟨x,y,xs,R0.o,Q0.o,K0.o,BD.o,by omega,hy16,by omega,rfl⟩
 case round=>
  obtain⟨b,c,ys,hr,hq,hkm,hbc,hck,hc16,hlen,hdr⟩:=hrel
  obtain⟨v,hv,hown⟩:=hr.txt
  have k5:=cell_of_one hr.bBits
  have k3:=cell_of_one hr.bTo
  have k6:=cell_of_one hr.bCount
  have k4:=cell_of_one hr.bPass
  have l5:=free_of_one hr.bBits
  have l6:=free_of_one hr.bCount
  clear e0 c5 c2 c6 f5 f6
  have HKM:=Hd hkm
  clear hkm
  by_cases hlt:c<tt
  ·have HR:=Hd hr;have HQ:=Hd hq;have HD:=Hd hdr
   clear hr hq hdr hv hown hbc
   go_wp2_with fail
   go_end0
   refine⟨rfl,HQ.o,HKM.o,b,c,ys,?_,HR.o⟩
   rw[←HD.o]
   cases gk<;>simp[Xb5,hlt]
  ·obtain⟨d,hd⟩:=xq (c-tt)
   obtain⟨q,hq'⟩:=xq (b/2^d)
   have ed:(c:Int)-(tt:Int)=(d:Int):=by omega
   have eq:(b:Int)/2^d=(q:Int):=by rw[hq'];push_cast;rfl
   have hd16:d<16:=by omega
   obtain⟨r,hr'⟩:=xq (b%2^d)
   have hb16:b<65536:=Nat.lt_of_lt_of_le hbc (Nat.pow_le_pow_right (n:=2) (by omega) (show c≤16 by omega))
   have em:Go.bits .and .i64 (b:Int) (wrap64 (wrap64 (2^d)-1))=(r:Int):=by rw[hr'];exact Xqx b d hb16 (by omega)
   have EM:=Hd em;have W:=Hd hr'
   clear em hr'
   have hqlt:q<2^tt:=by rw[hq'];apply Nat.div_lt_of_lt_mul;rw[←Nat.pow_add];have:d+tt=c:=by omega
                        rw[this];exact hbc
   have r1:=hr.setCount d
   have q1:Below B w0 (wr.setCell ⟨B+6,0,none⟩ (.int .i64 (d:Int))):=hq.setCell (by simp) _
   have hylen:ys.length≤1000000:=by omega
   have o1:=(ownsRow_setCell_other (a:=⟨B+6,0,none⟩) hown (Xec (b:=B+6) (t:=3) hown hr.bCount (by decide)) (.int .i64 (d:Int))).drew
   have P1:=Hd (HP.o (wr.setCell ⟨B+6,0,none⟩ (.int .i64 (d:Int))).drew v ys q q1.drew ((Below.heap_setCell _ _ _ _ (by simp)).trans hv) o1 hylen hqlt)
   have O1:=Hd o1
   have K1:=Hd (KM.setCell hr.bCount 0 (.int .i64 (d:Int)))
   have V1:Hid ((wr.setCell ⟨B+6,0,none⟩ (.int .i64 (d:Int))).drew.heap[B+1]?=some (.cells #[v] 82 (0,0))):=(Below.heap_setCell _ _ _ _ (by simp)).trans hv
   have R1:=Hd r1;have HD:=Hd hdr;have Q1:=Hd q1;have X:=Hd hq';have Y:=Hd hd;have Z:=Hd hbc
   clear hr hq hdr hv hown hbc r1 q1 hq' hd hqlt o1
   go_wp2_with fail
   go_region_held3 (fun w'=>w'.cell? ⟨B+4,0,none⟩=some (.func (.func 231) #[] #[.pointer (some ⟨B+1,0,none⟩)])∧w'.cell? ⟨B+5,0,none⟩=some (.int .i64 (b:Int))∧w'.cell? ⟨B+6,0,none⟩=some (.int .i64 (d:Int)))
    (first|exact⟨cell_of_one R1.o.drew.bPass,cell_of_one R1.o.drew.bBits,cell_of_one R1.o.drew.bCount⟩|exact⟨cell_of_one HR3.o.bPass,cell_of_one HR3.o.bBits,cell_of_one HR3.o.bCount⟩)
    (first|(go_at_call 231;refine(P1.o).mono ?_;rintro e w2 ⟨rfl,hn,hf⟩;have HR3:=Hd (RG.passed R1.o.drew O1.o hn hf);clear hn))
   all_goals (have k5:=cell_of_one HR3.o.bBits;have k6:=cell_of_one HR3.o.bCount;have l5:=free_of_one HR3.o.bBits;have em:=EM.o)
   all_goals go_wp2_with fail
   all_goals go_region
   all_goals go_wp2_with fail
   all_goals clear em
   all_goals go_roundg (gk-1)
   case measure=>omega
   case rel=>
    refine⟨r,d,ys++[f q],(HR3.o.setBits r).drew,(((Q1.o.drew.trans hf.below).setCell (by simp) _).drew),?_,?_,by omega,hd16,by simp;omega,?_⟩
    ·exact(((HKM.o.trans K1.o).drew.trans (hf.km V1.o O1.o)).trans (KM.setCell HR3.o.bBits 0 _)).drew
    ·rw[W.o];exact Nat.mod_lt _ (Nat.pow_pos (by omega))
    ·rw[←HD.o]
     obtain⟨k',rfl⟩:∃k',gk=k'+1:=⟨gk-1,by omega⟩
     rw[Xe0 _ _ _ _ _ _ hlt,←Y.o,←W.o,←X.o]
     rfl
theorem Xhw:(prog.info? 5).map (fun i=>(i.zero,i.size,i.bytes))=some (some (.int .u8 0),1,1):=by kernel_rfl
theorem Ynm (w:World)(Bt g base al:Nat)(v:Value)(xs:List Nat)
    (hT:w.heap[Bt]?=some (.cells #[v] 82 (0,0))) (hown:w.ownsRow base 5 1 v xs.length (xs.map U)) (hbase:base≤w.heap.size) (hBt:base≤Bt)
    (hn:xs.length≤1000000) (hg:g<64) (ha:w.cell? ⟨3,g,none⟩=some (U al)):
    Calls prog 231 #[.int .i64 g,.pointer (some ⟨Bt,0,none⟩)] w fun e w'=>e=.returned (.tuple #[])∧
     (∃v',w'.heap[Bt]?=some (.cells #[v'] 82 (0,0))∧w'.ownsRow base 5 1 v' (xs.length+1) ((xs++[al]).map U))∧Frame1 base Bt v w w':=by
 obtain⟨i0,hi0,hz0,hz1,hz2⟩:=info_parts Xhw
 have hc:=cell_of_one hT
 have hf:=free_of_one hT
 have lt:=zY hT
 have g0:(0:Int)≤(g:Int):=Int.natCast_nonneg _
 have g1:(g:Int)<64:=by omega
 have hne:v.ownBlock≠some Bt:=Xec hown hT (by decide)
 have hTA:(w.drew.alloc (.cells #[U al] 5)).heap[Bt]?=some (.cells #[v] 82 (0,0)):=Xae hT
 have HT:=Hd hT
 have HTA:=Hd hTA
 have HNE:=Hd hne
 clear hT hTA hne
 unfold U at ha HTA
 go_enter func231,ntmps231
 go_wp2_with fail
 go_region_law
  ((refine step_append_lies _ (by rfl) _ _ _ (by rfl) base 5 i0 _ 1 1 underlying82 hi0 hz0 hz1 hz2 rfl (by omega) v xs.length (xs.map U) (by rfl) ((hown.drew).alloc _)
      ⟨w.heap.size,0,none⟩ 1 1 [.int .u8 al] (by rfl) (by rfl) (World.news_of_block (cs:=#[.int .u8 al]) (t:=5) (fr:=(0,0)) (zN w _)) (by simp[Value.oneCell'])
      (by omega) (by unfold maxLen;omega) (by omega) (by simp;omega) (w.heap.size+1) (by simp) ?_;intro gg cap w1 hown1 hgrow hat hlt;have hc1:=Xdk hgrow HTA.o HNE.o;have hc2:=cell_of_one hc1;have hc3:=free_of_one hc1;have HC1:=Hd hc1;clear hc1))
 all_goals go_end0
 all_goals (refine⟨rfl,?_⟩;rw[List.map_append];exact Xlu hown1 hgrow (((zR _ _).alloc (zL _) _).drew) HC1.o (by decide) hBt hbase hown)
theorem Xkn (w:World)(a b pf Bt B:Nat)(hB:w.heap.size=B+2):
    Calls prog 230 #[.int .i64 a,.int .i64 b,.func (.func pf) #[] #[.pointer (some ⟨Bt,0,none⟩)]] w fun e w'=>
     e=.returned (.tuple #[.func (.func 261) #[] #[.pointer (some ⟨B+5,0,none⟩),.pointer (some ⟨B+2,0,none⟩),.pointer (some ⟨B+6,0,none⟩),.pointer (some ⟨B+3,0,none⟩),.pointer (some ⟨B+4,0,none⟩)],
      .func (.func 262) #[] #[.pointer (some ⟨B+5,0,none⟩),.pointer (some ⟨B+6,0,none⟩)]])∧
     w'=((((w.alloc (.cells #[.int .i64 a] 3)).alloc (.cells #[.int .i64 b] 3)).alloc (.cells #[.func (.func pf) #[] #[.pointer (some ⟨Bt,0,none⟩)]] 183)).alloc (.cells #[.int .i64 0] 3)).alloc (.cells #[.int .i64 0] 3):=by
 have HB:=Hd hB
 clear hB
 go_enter func230,ntmps230
 go_wp2_with fail
 go_ret2
 refine⟨?_,rfl⟩
 simp[HB.o]
theorem Xuh (w:World)(B fr tt pf b c:Nat)(xs:List Nat)(h:RG B fr tt pf b c xs w):
    Calls prog 262 #[.pointer (some ⟨B+5,0,none⟩),.pointer (some ⟨B+6,0,none⟩)] w fun e w'=>e=.returned (.tuple #[.int .i64 b,.int .i64 c])∧∃n,w'=w.drewN n:=by
 have k5:=cell_of_one h.bBits
 have k6:=cell_of_one h.bCount
 clear h
 go_enter func262,ntmps262
 go_wp2_with fail
 go_quiet (fail)
 go_wp2_with fail
 go_ret2
 exact⟨rfl,_,rfl⟩
def Ycx (n:Int):Int:=if n<0∨131072<n then 0 else(n+2)/3*4
theorem Xo8 {n:Int}(h:n<0∨131072<n):Ycx n=0:=qP h
theorem Ycw {n:Int}(h:¬(n<0∨131072<n)):Ycx n=(n+2)/3*4:=qN h
theorem Xtq (w:World)(n:Int)(h0:-9223372036854775808≤n)(h1:n≤9223372036854775807):
    Rx 247 #[.int .i64 n] w (.int .i64 (Ycx n)):=by
 by_cases ha:n<0
 ·go_enter func247,ntmps247
  go_wp2
  all_goals go_ret
  all_goals exact⟨by rw[Xo8 (.inl ha)];rfl,rfl⟩
 ·by_cases hb:131072<n
  ·go_enter func247,ntmps247
   go_wp2
   all_goals go_ret
   all_goals exact⟨by rw[Xo8 (.inr hb)];rfl,rfl⟩
  ·go_enter func247,ntmps247
   go_wp2
   all_goals go_ret
   all_goals exact⟨by rw[Ycw (by omega)];rfl,rfl⟩
theorem Xhp {w:World}{base e size n:Nat}{v:Value}{xs:List Value}(h:w.ownsRow base e size v n xs):∃a cap,v=.slice a n cap:=by
 rcases h.2 with⟨rfl,rfl⟩|⟨g,cap,cur,rfl,_⟩
 ·exact⟨none,0,rfl⟩
 ·exact⟨some ⟨g,0,none⟩,cap,rfl⟩
theorem Xng (ys:List Nat):strOfNums (ys.map fun n:Nat=>(n:Int))=Xaq ys:=by
 unfold strOfNums Xaq
 simp[Function.comp_def]
theorem Xm4 {P:Program}(w:World)(src e dst:TypeId)(hs:P.underlying src=some (.slice e))(he:P.underlying e=some (.int .u8))(hd:P.underlying dst=some .string)(b off cap:Nat)(ys:List Nat)
    (hcell:∀i (h:i<ys.length),w.cell? ⟨b,off+i,none⟩=some (U ys[i])):(convert src dst (.slice (some ⟨b,off,none⟩) ys.length cap)).run P w=.ok (.string (Xaq ys)) w:=by
 rw[←Xng]
 refine run_convert_bytes_arg w src e hs he b off ys.length cap _ (by simp) ?_ dst hd
 intro i hi
 rw[hcell i hi]
 simp[U,List.getD,List.getElem?_eq_getElem hi]
theorem Xnx {P:Program}{w:World}{base e:Nat}{v:Value}{n:Nat}{ys:List Nat}(src dst:TypeId)(hs:P.underlying src=some (.slice e))(he:P.underlying e=some (.int .u8))(hd:P.underlying dst=some .string)
    (h:w.ownsRow base e 1 v n (ys.map U)):(convert src dst v).run P w=.ok (.string (Xaq ys)) w:=by
 have hl:ys.length=n:=by simpa using h.1
 subst hl
 rcases h.2 with⟨rfl,h0⟩|⟨g,cap,cur,rfl,_⟩
 ·obtain rfl:ys=[]:=List.eq_nil_of_length_eq_zero h0
  exact run_convert_bytes_nil w src e hs he 0 0 dst hd
 ·refine Xm4 w src e dst hs he hd g 0 cap ys ?_
  intro i hi
  rw[Nat.zero_add,h.cellAt i (by omega),List.getElem?_map,List.getElem?_eq_getElem hi]
  rfl
theorem Xb9 {P:Program}(w:World){ops:Array Oper}{rest:List Oper}{o:Oper}{a:Act}{Q:Exit→Act→World→Prop}
    (hg:o.guard=none) (l c:Operand) (t:TypeId) (hop:o.op=Op.makeSlice t l c)
    (e:TypeId) (i:TypeInfo) (z:Value) (size:Nat) (h1:P.underlying t=some (.slice e)) (h2:P.info? e=some i) (h3:i.zero=some z) (h4:i.size=size)
    (kl kc:IntKind) (L C:Int) (m n:Nat) (hl:a.eval l=.int kl L) (hc:a.eval c=.int kc C) (hL:L=(m:Int)) (hC:C=(n:Int)) (hmn:m≤n) (b2:i.bytes*n≤281474976710656) (b3:n≤maxLen)
    (hK:∀cs,cs.size=n*size→wpList P ops Q rest (a.put o.dst (.slice (some ⟨w.heap.size,0,none⟩) m n)) (w.alloc (.cells cs e))):
    wpList P ops Q (o::rest) a w:=by
 refine wpList_plain hg fun K hK'=>?_
 have hr:=run_make (P:=P) w t e i z h1 h2 h3 kl kc m n (by omega) (by omega) (by have h:((i.bytes*n:Nat):Int)≤281474976710656:=by omega
                                                                                 rwa [Int.natCast_mul] at h) (by unfold maxLen at b3;omega)
 subst hL
 subst hC
 simp only[Int.toNat_natCast] at hr
 unfold Oper.wp
 simp[execOp,hop,hl,hc,hr,Result.andThen]
 exact hK' _ _ (hK _ (by rw[←h4];exact size_madeCells _ _))
structure Tab (w:World):Prop where
 size:3<w.heap.size
 cell:∀g,g<64→w.cell? ⟨3,g,none⟩=some (U (al g))
theorem Tab.below {B:Nat}{w w':World}(h:Tab w)(hb:Below B w w')(hB:3<B):Tab w':=⟨Nat.lt_of_lt_of_le h.size hb.size,fun g hg=>(hb.cell (by exact hB)).trans (h.cell g hg)⟩
theorem Ydm (w0:World)(B:Nat)(ht:Tab w0)(hB:3<B)(hs:B≤w0.heap.size):Xu7 w0 B 231 (2^6) al:=by
 intro w v xs g hb hT hown hn hg
 exact Ynm w (B+1) g B (al g) v xs hT hown (Nat.le_trans hs hb.size) (by omega) hn (by omega) ((ht.below hb hB).cell g (by omega))
theorem Xt1 (w:World)(cs:Array Value)(n fr tt pf:Nat)(hn:n≤maxLen)(hcs:cs.size=n*1):
    RG w.heap.size fr tt pf 0 0 [] ((((((((w.alloc (.cells cs 5)).alloc (.cells #[.slice (some ⟨w.heap.size,0,none⟩) 0 n] 82)).alloc (.cells #[.int .i64 fr] 3)).alloc (.cells #[.int .i64 tt] 3)).alloc (.cells #[.func (.func pf) #[] #[.pointer (some ⟨w.heap.size+1,0,none⟩)]] 183)).alloc (.cells #[.int .i64 0] 3)).alloc (.cells #[.int .i64 0] 3))):=by
 have sz:∀(u:World) (o:Obj),(u.alloc o).heap.size=u.heap.size+1:=fun u o=>by simp
 have a1:=World.ownsRow_made (base:=w.heap.size) (e:=5) (size:=1) w cs n (zL _) hn hcs
 have new:∀(u:World) (o:Obj) (k:Nat),u.heap.size=k→(u.alloc o).heap[k]?=some o:=fun u o k h=>by rw[←h];exact zN u o
 refine⟨Xae (new _ _ _ (by simp)),?_,new _ _ _ (by simp),?_,?_,.slice (some ⟨w.heap.size,0,none⟩) 0 n,?_,((((((a1.alloc _).alloc _).alloc _).alloc _).alloc _).alloc _)⟩
 ·exact Xae (Xae (Xae (Xae (new _ _ _ (by simp)))))
 ·exact Xae (Xae (Xae (new _ _ _ (by simp))))
 ·exact Xae (Xae (new _ _ _ (by simp)))
 ·exact Xae (Xae (Xae (Xae (Xae (new _ _ _ (by simp))))))
theorem Xls (w:World)(o1 o2 o3 o4 o5 o6 o7:Obj):Bw w (((((((w.alloc o1).alloc o2).alloc o3).alloc o4).alloc o5).alloc o6).alloc o7):=by
 refine Below.alloc (Below.alloc (Below.alloc (Below.alloc (Below.alloc (Below.alloc (Below.alloc (zR _ _) ?_ _) ?_ _) ?_ _) ?_ _) ?_ _) ?_ _) ?_ _<;>simp<;>omega
def Xgi (c:Nat):Nat:=if c≤127 then 1 else if c<194 then 0 else if c≤223 then 2 else if c≤239 then 3 else if c≤244 then 4 else 0
def Xg1 (f i c:Nat):Bool:=
 decide ((if i=1∧f=224 then 160 else if i=1∧f=240 then 144 else 128)≤c)&&decide (c≤(if i=1∧f=237 then 159 else if i=1∧f=244 then 143 else 191))
theorem Xj9 (c:Nat):Xgi c≤4:=by unfold Xgi;(repeat' split)<;>omega
theorem Ycn {f i c:Nat}(h:Xg1 f i c=true):128≤c∧c≤191:=by
 unfold Xg1 at h;simp at h;obtain⟨h1,h2⟩:=h
 constructor
 ·split at h1<;>(try split at h1)<;>omega
 ·split at h2<;>(try split at h2)<;>omega
def Xb7 (l:List Nat):Bool:=
 decide (Xgi (l.getD 0 0)≠0)&&decide (Xgi (l.getD 0 0)≤l.length)&&(List.range 3).all (fun i=>decide (Xgi (l.getD 0 0)≤i+1)||Xg1 (l.getD 0 0) (i+1) (l.getD (i+1) 0))
def rn (l:List Nat):Nat:=if Xb7 l=true then Xgi (l.getD 0 0) else 0
theorem Xca (l:List Nat):Xb7 l=true↔Xgi (l.getD 0 0)≠0∧Xgi (l.getD 0 0)≤l.length∧∀i,1≤i→i<Xgi (l.getD 0 0)→Xg1 (l.getD 0 0) i (l.getD i 0)=true:=by
 have h4:=Xj9 (l.getD 0 0)
 unfold Xb7
 simp only[Bool.and_eq_true,decide_eq_true_eq,List.all_eq_true,List.mem_range,Bool.or_eq_true]
 constructor
 ·rintro⟨⟨a,b⟩,c⟩
  refine⟨a,b,fun i h1 h2=>?_⟩
  have:=c (i-1) (by omega)
  rw[show i-1+1=i by omega] at this
  rcases this with h|h
  ·omega
  ·exact h
 ·rintro⟨a,b,c⟩
  refine⟨⟨a,b⟩,fun i hi=>?_⟩
  by_cases h:Xgi (l.getD 0 0)≤i+1
  ·exact .inl h
  ·exact .inr (c (i+1) (by omega) (by omega))
theorem Xjp (l:List Nat)(h:¬(Xgi (l.getD 0 0)≠0∧Xgi (l.getD 0 0)≤l.length∧∀i,1≤i→i<Xgi (l.getD 0 0)→Xg1 (l.getD 0 0) i (l.getD i 0)=true)):Xb7 l=false:=by
 rw[←Xca] at h;simpa using h
theorem Xrf (l:List Nat):rn l≤l.length∧rn l≤4:=by
 unfold rn;split
 ·rename_i h;have:=(Xca l).1 h;exact⟨this.2.1,Xj9 _⟩
 ·omega
theorem Xkl {l:List Nat}(h:Xb7 l=false):rn l=0:=by unfold rn;rw[h];rfl
theorem Xfr {l:List Nat}(h:Xb7 l=true):rn l=Xgi (l.getD 0 0)∧0<rn l:=by
 have:=(Xca l).1 h
 unfold rn;rw[qP h];omega
theorem rn_ne {l:List Nat}:rn l≠0↔Xb7 l=true:=by
 constructor
 ·intro h;cases hw:Xb7 l
  ·exact absurd (Xkl hw) h
  ·rfl
 ·intro h;have:=Xfr h;omega
def Yjm:Nat→List Nat→Bool
 |0,l=>l.isEmpty
 |k+1,l=>if l.isEmpty then true else(decide (rn l≠0)&&Yjm k (l.drop (rn l)))
def vld (l:List Nat):Bool:=Yjm l.length l
theorem Ygr:∀(n:Nat) (l:List Nat) (k:Nat),l.length≤n→l.length≤k→Yjm k l=Yjm l.length l:=by
 intro n
 induction n with
 |zero=>
  intro l k hl hk
  have:l=[]:=List.length_eq_zero_iff.1 (by omega)
  subst this
  cases k<;>rfl
 |succ n ih=>
  intro l k hl hk
  cases l with
  |nil=>cases k<;>rfl
  |cons a l=>
   cases k with
   |zero=>simp at hk
   |succ k=>
    rw[List.length_cons]
    simp only[Yjm]
    by_cases h0:rn (a::l)=0
    ·simp[h0]
    ·have hlen:((a::l).drop (rn (a::l))).length≤l.length:=by simp;omega
     have hl':l.length≤n:=by simpa using hl
     have hk':l.length≤k:=by simpa using hk
     rw[ih _ k (by omega) (by omega),ih _ l.length (by omega) (by omega)]
theorem Xnd {l:List Nat}(h:l≠[]):vld l=(decide (rn l≠0)&&vld (l.drop (rn l))):=by
 cases l with
 |nil=>exact absurd rfl h
 |cons a l=>
  unfold vld
  rw[List.length_cons]
  simp only[Yjm]
  by_cases h0:rn (a::l)=0
  ·simp[h0]
  ·rw[Ygr l.length _ l.length (by simp;omega) (by simp;omega)]
   simp
def cpt (l:List Nat):Nat:=
 ((l.take (rn l)).drop 1).foldl (fun r x=>r*64+x%64) (if rn l≤1 then l.getD 0 0 else l.getD 0 0%2^(7-rn l))
def Xuw (r:Nat):Bool:=decide (r<32)||(decide (127≤r)&&decide (r≤159))||decide (r=8232)||decide (r=8233)
def rsN:Nat→Nat→List Nat→List (Nat×Nat)
 |0,_,_=>[]
 |k+1,at',l=>if rn l=0 then[] else(at',cpt l)::rsN k (at'+rn l) (l.drop (rn l))
def rns (l:List Nat):List (Nat×Nat):=rsN l.length 0 l
def gd (t:Bool)(r:Nat):Bool:=!Xuw r||(t&&decide (r=9))
def Xie (t:Bool)(l:List Nat):Bool:=vld l&&(rns l).all fun x=>gd t x.2
theorem Yf1:rn []=0:=rfl
theorem Yfx:∀(n:Nat) (l:List Nat) (k a:Nat),l.length≤n→l.length≤k→rsN k a l=rsN l.length a l:=by
 intro n
 induction n with
 |zero=>
  intro l k a hl hk
  have:l=[]:=List.length_eq_zero_iff.1 (by omega)
  subst this
  cases k<;>rfl
 |succ n ih=>
  intro l k a hl hk
  cases l with
  |nil=>cases k<;>rfl
  |cons x l=>
   cases k with
   |zero=>simp at hk
   |succ k=>
    rw[List.length_cons]
    simp only[rsN]
    by_cases h0:rn (x::l)=0
    ·simp[h0]
    ·have hlen:((x::l).drop (rn (x::l))).length≤l.length:=by simp;omega
     have hl':l.length≤n:=by simpa using hl
     have hk':l.length≤k:=by simpa using hk
     rw[ih _ k _ (by omega) (by omega),ih _ l.length _ (by omega) (by omega)]
theorem Xnt (k a:Nat)(l:List Nat)(h:rn l≠0)(hk:l.length≤k):rsN k a l=(a,cpt l)::rsN (l.drop (rn l)).length (a+rn l) (l.drop (rn l)):=by
 have hl:=(Xrf l).1
 rw[Yfx l.length l k a (zL _) hk]
 cases l with
 |nil=>exact absurd Yf1 h
 |cons x l=>
  rw[List.length_cons]
  simp only[rsN]
  rw[qN h,Yfx l.length _ l.length _ (by simp;omega) (by simp;omega)]
theorem Xns (k a:Nat)(l:List Nat)(h:rn l=0):rsN k a l=[]:=by
 cases k with
 |zero=>rfl
 |succ k=>simp only[rsN];rw[qP h]
theorem Xye:∀(k a:Nat) (l:List Nat),(rsN k a l).length≤k
 |0,_,_=>zL _
 |k+1,a,l=>by
  simp only[rsN]
  split
  ·simp
  ·have:=Xye k (a+rn l) (l.drop (rn l));simp;omega
def dbl:List Nat→Bool
 |a::b::t=>(decide (a=32)&&decide (b=32))||dbl (b::t)
 |_=>false
def sqz (l:List Nat):Bool:=!decide (l.head?=some 32)&&!decide (l.getLast?=some 32)&&!dbl l
def fe (a b:Nat):Nat:=if a≠0 then a else b
def eIf (p:Bool)(e:Nat):Nat:=if p=true then e else 0
def Xfp (l:List Nat)(most:Nat):Nat:=fe (eIf (decide (most<l.length)) 5) (fe (eIf (!Xie false l) 6) (eIf (!sqz l) 3))
def spl (c:Nat):List Nat→List (List Nat)
 |[]=>[[]]
 |x::t=>if x=c then[]::spl c t else match spl c t with
  |[]=>[[x]]
  |h::r=>(x::h)::r
theorem Xkc (c:Nat)(l:List Nat):spl c l≠[]:=by
 cases l with
 |nil=>simp[spl]
 |cons x t=>simp only[spl];split;· simp
            split<;>simp
def low (c:Nat):Bool:=decide (97≤c)&&decide (c≤122)
def dig (c:Nat):Bool:=decide (48≤c)&&decide (c≤57)
def nmC (c:Nat):Bool:=low c||dig c||decide (c=45)||decide (c=43)||decide (c=95)
def Xeq (l:List Nat):Bool:=!l.isEmpty&&decide (l.length≤20)&&low (l.getD 0 0)&&l.all nmC
def Xbf (l:List Nat):Nat:=if 80<l.length then 5 else if(spl 46 l).any (fun p=>!Xeq p)=true then 12 else if 10<(spl 46 l).length then 9 else 0
def Xc9 (f:List Nat→Nat)(d:Nat):List (List Nat)→List (List Nat)→Nat
 |_,[]=>0
 |pre,x::r=>if f x≠0 then f x else if pre.contains x=true then d else Xc9 f d (pre++[x]) r
def Xcd (f:List Nat→Nat)(l:List (List Nat)):Nat:=if 20<l.length then 9 else Xc9 f 7 [] l
def Xbt (l:List (List Nat)):Nat:=if l=[] then 4 else Xcd Xbf l
def zero32:List Nat:=List.replicate 32 0
def Xe9 (l:List (List Nat)):Nat:=Xcd (fun x=>if x=zero32 then 1 else 0) l
def Xli (l:List Nat):Nat:=fe (eIf (decide (20<l.length)) 5) (eIf (l.any fun c=>!low c&&!dig c&&!decide (c=45)) 6)
def Xfj (l:List Nat):List Nat:=l.takeWhile (fun c=>!decide (c=10))
def Xon:Nat→List Nat→Nat
 |0,_=>0
 |k+1,l=>if l=[] then 0 else if(Xfj l).length=l.length then 4 else if 998<(Xfj l).length then 5 else if Xie true (Xfj l)=false then 6 else Xon k (l.drop ((Xfj l).length+1))
def Xf1 (l:List Nat):Nat:=Xon l.length l
def hxl (k:Nat):Nat:=if k<10 then 48+k else 87+k
def Xbv (l:List Nat):List Nat:=l.flatMap fun b=>[hxl (b/16),hxl (b%16)]
def hvl (c:Nat):Option Nat:=if 48≤c∧c≤57 then some (c-48) else if 97≤c∧c≤102 then some (c-87) else none
def Xjh:List Nat→Option (List Nat)
 |[]=>some []
 |[_]=>none
 |a::b::t=>match hvl a,hvl b,Xjh t with
  |some x,some y,some r=>some ((16*x+y)::r)
  |_,_,_=>none
def sHash:List Nat:=[64,104,97,115,104,62]
def Xcr (id:List Nat):List Nat:=60::Xbv id++sHash
def Xfl (x:List Nat):Option (List Nat):=if x.length=71∧x.getD 0 0=60∧x.drop 65=sHash then Xjh ((x.drop 1).take 64) else none
def Xe2 (x:List Nat):Option (List Nat):=if x.length=32 then Xjh x else none
def Xa9 (a b:Nat):Nat:=(a+b)%4294967296
def Xrt (a:Nat):Nat:=4294967295-a
def Xdx (a n:Nat):Nat:=(a*2^n)%4294967296
def rot (x n:Nat):Nat:=Xdx x (32-n)|||x/2^n
structure W8 where
 a:Nat
 b:Nat
 c:Nat
 d:Nat
 e:Nat
 f:Nat
 g:Nat
 i:Nat
def shK:List Nat:=[1116352408,1899447441,3049323471,3921009573,961987163,1508970993,2453635748,2870763221,3624381080,310598401,607225278,1426881987,1925078388,2162078206,2614888103,3248222580,3835390401,4022224774,264347078,604807628,770255983,1249150122,1555081692,1996064986,2554220882,2821834349,2952996808,3210313671,3336571891,3584528711,113926993,338241895,666307205,773529912,1294757372,1396182291,1695183700,1986661051,2177026350,2456956037,2730485921,2820302411,3259730800,3345764771,3516065817,3600352804,4094571909,275423344,430227734,506948616,659060556,883997877,958139571,1322822218,1537002063,1747873779,1955562222,2024104815,2227730452,2361852424,2428436474,2756734187,3204031479,3329325298]
def sh0:W8:=⟨1779033703,3144134277,1013904242,2773480762,1359893119,2600822924,528734635,1541459225⟩
def Yc5 (v:W8)(k w:Nat):Nat:=Xa9 (Xa9 (Xa9 (Xa9 v.i (rot v.e 6^^^rot v.e 11^^^rot v.e 25)) ((v.e&&&v.f)^^^(Xrt v.e&&&v.g))) k) w
def Yf0 (v:W8):Nat:=Xa9 (rot v.a 2^^^rot v.a 13^^^rot v.a 22) ((v.a&&&v.b)^^^(v.a&&&v.c)^^^(v.b&&&v.c))
def rnd (v:W8)(k w:Nat):W8:=⟨Xa9 (Yc5 v k w) (Yf0 v),v.a,v.b,v.c,Xa9 v.d (Yc5 v k w),v.e,v.f,v.g⟩
def Xg7 (x y:W8):W8:=⟨Xa9 x.a y.a,Xa9 x.b y.b,Xa9 x.c y.c,Xa9 x.d y.d,Xa9 x.e y.e,Xa9 x.f y.f,Xa9 x.g y.g,Xa9 x.i y.i⟩
def Yma (w:List Nat)(t:Nat):Nat:=
 Xa9 (w.getD (t%16) 0) (Xa9 (Xa9 (rot (w.getD ((t-15)%16) 0) 7^^^rot (w.getD ((t-15)%16) 0) 18^^^w.getD ((t-15)%16) 0/2^3) (rot (w.getD ((t-2)%16) 0) 17^^^rot (w.getD ((t-2)%16) 0) 19^^^w.getD ((t-2)%16) 0/2^10)) (w.getD ((t-7)%16) 0))
def Xif (w:List Nat)(t:Nat):List Nat:=if t<16 then w else w.set (t%16) (Yma w t)
def Xyy (st:W8×List Nat)(t:Nat):W8×List Nat:=(rnd st.1 (shK.getD t 0) ((Xif st.2 t).getD (t%16) 0),Xif st.2 t)
def Xnw (h:W8)(w:List Nat)(n:Nat):W8×List Nat:=(List.range n).foldl Xyy (h,w)
theorem Xev (h:W8)(w:List Nat)(n:Nat):Xnw h w (n+1)=Xyy (Xnw h w n) n:=by simp[Xnw,List.range_succ]
def Xg6 (h:W8)(w:List Nat):W8:=Xg7 h (Xnw h w 64).1
def Xp1 (b:List Nat)(w:List Nat)(i:Nat):List Nat:=w.set (i/4) (Xdx (w.getD (i/4) 0) 8|||b.getD i 0)
def Xxf (b:List Nat)(n:Nat):List Nat:=(List.range n).foldl (Xp1 b) (List.replicate 16 0)
theorem Xk0 (b:List Nat)(n:Nat):Xxf b (n+1)=Xp1 b (Xxf b n) n:=by simp[Xxf,List.range_succ]
def ldF (b:List Nat):List Nat:=Xxf b 64
structure Hs where
 st:W8
 blk:List Nat
 len:Nat
def Xcp (h:Hs)(b:List Nat):Hs:=
 let p:=h.len%64
 let n:=min (64-p) b.length
 let blk:=h.blk.take p++b.take n++h.blk.drop (p+n)
 ⟨if(h.len+n)%64=0 then Xg6 h.st (ldF blk) else h.st,blk,h.len+n⟩
def wrN:Nat→Hs→List Nat→Hs
 |0,h,_=>h
 |k+1,h,b=>if b=[] then h else wrN k (Xcp h b) (b.drop (min (64-h.len%64) b.length))
def wrF (h:Hs)(b:List Nat):Hs:=wrN b.length ⟨if h.len=0 then sh0 else h.st,h.blk,h.len⟩ b
def Yf5 (len:Nat):Nat:=(119-len%64)%64
def Xrn (len:Nat):List Nat:=128::List.replicate (Yf5 len) 0++(List.range 8).map (fun k=>(8*len%18446744073709551616)/2^(56-8*k)%256)
def dgW (x:Nat):List Nat:=(List.range 4).map (fun k=>x/2^(24-8*k)%256)
def dgF (v:W8):List Nat:=[v.a,v.b,v.c,v.d,v.e,v.f,v.g,v.i].flatMap dgW
def hs0:Hs:=⟨⟨0,0,0,0,0,0,0,0⟩,List.replicate 64 0,0⟩
def smF (h:Hs):List Nat:=dgF (wrF h (Xrn h.len)).st
def Xi4 (l:List Nat):List Nat:=smF (wrF hs0 l)
end Go.Proofs.YtjolcnopipbkhaaGreatDoor
