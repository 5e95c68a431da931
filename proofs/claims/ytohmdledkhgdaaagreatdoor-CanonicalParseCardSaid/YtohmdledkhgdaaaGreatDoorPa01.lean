/- Small helpers on worlds for the walks of this seat: what an owned row and a box of one cell do to each other. -/
import Derived.WalkKit
import Derived.WalkSpells
import Derived.WalkLawsBesides
import Derived.Deep.AppendLies
import Derived.Lib.Hide
import Derived.Maps.Own
import Derived.OrdersHeld
import Derived.Test.YtohmdledkhgdaaaGreatDoorProg
import Derived.Lib.FrozenHead
import Derived.BigQuiet
import Derived.Deep.QuietTactic
import Derived.Deep.RegionLaw
import Derived.Deep.RegionHeld3
import Derived.KernelRfl
import Derived.Deep.WholeRow
import Derived.DeepKeys
import Derived.IntWalk
import Derived.Outline
import Derived.OpenShut
namespace Go.Proofs.YtohmdledkhgdaaaGreatDoor
open Go.RowKit
set_option linter.unusedVariables false
theorem Hd{p:Prop} (h:p):RowKit.Hid p:=h
def U (n:Nat):Value:=.int .u8 n
theorem Xd6 {w:World} {base e size:Nat} {v:Value} {n:Nat} {xs:List Value} {b t:Nat} {cs:Array Value} {fz:Nat×Nat}
    (hown:w.ownsRow base e size v n xs) (hT:w.heap[b]?=some (.cells cs t fz)) (hne:t≠e):v.ownBlock≠some b:=by
 intro h
 rcases hown.2 with⟨rfl,_⟩|⟨g,cap,cur,rfl,_,hg,_⟩
 ·simp[Value.ownBlock] at h
 ·simp[Value.ownBlock] at h
  subst h
  rw[hg] at hT
  simp at hT
  exact hne hT.2.1.symm
theorem Xda {w w':World} {row:Option Nat} {b:Nat} {o:Obj} (hg:w.grownBy w' row) (hb:w.heap[b]?=some o) (hne:row≠some b):w'.heap[b]?=some o:=
 (hg.block b (lt_of_block hb) (fun h=>hne h.symm)).trans hb
def KM (w w':World):Prop:=∀(k:Nat) (es:Array MapEntry) (c:Nat),w.heap[k]?=some (.map es c)→w'.heap[k]?=some (.map es c)
theorem KM.refl (w:World):KM w w:=fun _ _ _ h=>h
theorem KM.trans {a b c:World} (h:KM a b) (h':KM b c):KM a c:=fun k es cl hk=>h' k es cl (h k es cl hk)
theorem KM.drew {a b:World} (h:KM a b):KM a b.drew:=h
theorem KM.setCell {w:World} {b t:Nat} {cs:Array Value} {fz:Nat×Nat} (hb:w.heap[b]?=some (.cells cs t fz)) (o:Nat) (u:Value):KM w (w.setCell ⟨b,o,none⟩ u):=by
 intro k es c hk
 have hne:k≠b:=fun e=>by rw[e,hb] at hk;simp at hk
 rw[Below.heap_setCell _ _ _ _ hne]
 exact hk
theorem KM.alloc (w:World) (o:Obj):KM w (w.alloc o):=fun k es c hk=>(Below.heap_alloc w o k (lt_of_block hk)).trans hk
theorem KM.owns {H:Type} {w w':World} (h:KM w w') {P:Program} {k:TypeId} {R:Value→Option (DataW H×List MemPlace)} {b n:Nat} {D:DataW H} (ho:w.ownsMap P k R b n D):w'.ownsMap P k R b n D:=by
 obtain⟨es,c,hb,r⟩:=ho
 exact⟨es,c,h b es c hb,r⟩
structure Frame1 (B Bt:Nat) (v:Value) (w w':World):Prop where
 below:Below B w w'
 other:∀k,k<w.heap.size→k≠Bt→v.ownBlock≠some k→w'.heap[k]?=w.heap[k]?
theorem Frame1.km {B Bt t e base size n:Nat} {v:Value} {xs:List Value} {w w':World} {cs:Array Value} {fz:Nat×Nat} (h:Frame1 B Bt v w w') (hT:w.heap[Bt]?=some (.cells cs t fz)) (hown:w.ownsRow base e size v n xs):KM w w':=by
 intro k es c hk
 refine(h.other k (lt_of_block hk) (fun e=>by rw[e,hT] at hk;simp at hk) ?_).trans hk
 intro e'
 rcases hown.2 with⟨rfl,_⟩|⟨g,cap,cur,rfl,_,hg,_⟩
 ·simp[Value.ownBlock] at e'
 ·simp[Value.ownBlock] at e'
  subst e'
  rw[hg] at hk
  simp at hk
theorem Xaf {w:World} {o:Obj} {b:Nat} {x:Obj} (h:w.heap[b]?=some x):(w.alloc o).heap[b]?=some x:=
 (Below.heap_alloc w o b (lt_of_block h)).trans h
theorem Xkt {w wA w1:World} {base Bt e t:Nat} {v:Value} {xs:List Value} {ys:List Value} {gg cap n m:Nat}
    (hown1:w1.ownsRow base e 1 (.slice (some ⟨gg,0,none⟩) (n+m) cap) (n+m) (xs++ys)) (hgrow:wA.grownBy w1 v.ownBlock) (hA:Below w.heap.size w wA)
    (hT1:w1.heap[Bt]?=some (.cells #[v] t (0,0))) (hte:t≠e) (hBt:base≤Bt) (hbase:base≤w.heap.size) (hv:w.ownsRow base e 1 v n xs):
    (∃v',(w1.setCell ⟨Bt,0,none⟩ (.slice (some ⟨gg,0,none⟩) (n+m) cap)).heap[Bt]?=some (.cells #[v'] t (0,0))∧
     (w1.setCell ⟨Bt,0,none⟩ (.slice (some ⟨gg,0,none⟩) (n+m) cap)).ownsRow base e 1 v' (n+m) (xs++ys))∧
    Frame1 base Bt v w (w1.setCell ⟨Bt,0,none⟩ (.slice (some ⟨gg,0,none⟩) (n+m) cap)):=by
 refine⟨⟨_,one_setCell hT1,ownsRow_setCell_other hown1 (Xd6 hown1 hT1 hte) _⟩,?_,?_⟩
 ·refine Below.setCell ?_ hBt _
  refine Below.grown (hA.mono hbase) hgrow (Nat.le_trans hbase hA.size) ?_
  intro k hk
  exact(hv.lt k hk).1
 ·intro k hk h1 h2
  rw[Below.heap_setCell _ _ _ _ h1,hgrow.block k (Nat.lt_of_lt_of_le hk hA.size) (fun h=>h2 h.symm),hA.block k hk]
theorem Xad {P:Program} {md:Region.Mode} {ops:Array Oper} {Q:Exit→Act→World→Prop} {S:World→Prop} {fuel:Nat} {listed:Array Bool} {a:Act} {w:World} (i:Nat) (v:Value) {oi:Oper} (hi:ops[i]?=some oi)
    (he:∀w',S w'→(execOp a.eval oi).run P w'=.ok (.value v) w') (hS:S w) (h:wpAnyH P md ops Q S fuel (listed.setIfInBounds i true) (a.put oi.dst v) w)
    (hw:Region.wanted oi (yielded ops a.tmps)=true:=by kernel_rfl) (hs:Region.noSelect ops=true:=by kernel_rfl) (hf:Region.free md ops listed i=true:=by kernel_rfl) (hr:(Region.ready md ops listed).contains i=true:=by kernel_rfl)
    (hQ:∀c a w,Q (.panic c) (a.put oi.dst v) w→Q (.panic c) a w:=by exact fun _ _ _ h=>h):wpAnyH P md ops Q S (fuel+1) listed a w:=
 wpAnyH_take hi hs hf hr hQ (Or.inl ⟨hw,he⟩) hS h
theorem Xar {P:Program} {md:Region.Mode} {ops:Array Oper} {Q:Exit→Act→World→Prop} {S:World→Prop} {fuel:Nat} {listed:Array Bool} {a:Act} {w:World} (i:Nat) {oi:Oper} (hi:ops[i]?=some oi)
    (hS:S w) (h:wpAnyH P md ops Q S fuel (listed.setIfInBounds i true) (a.put oi.dst undef) w)
    (hw:Region.wanted oi (yielded ops a.tmps)=false:=by kernel_rfl) (hs:Region.noSelect ops=true:=by kernel_rfl) (hf:Region.free md ops listed i=true:=by kernel_rfl) (hr:(Region.ready md ops listed).contains i=true:=by kernel_rfl)
    (hQ:∀c a w,Q (.panic c) (a.put oi.dst undef) w→Q (.panic c) a w:=by exact fun _ _ _ h=>h):wpAnyH P md ops Q S (fuel+1) listed a w:=
 wpAnyH_take hi hs hf hr hQ (Or.inr ⟨hw,rfl⟩) hS h
end Go.Proofs.YtohmdledkhgdaaaGreatDoor
/- Plain functions on lists for base64: what the code computes. No program in sight. -/
namespace Go.Proofs.YtohmdledkhgdaaaGreatDoor
set_option linter.unusedVariables false
def Xb4 (f:Nat→Nat) (tt:Nat):Nat→Nat→Nat→List Nat→Nat×Nat×List Nat
 |0,b,c,xs=>(b,c,xs)
 |k+1,b,c,xs=>if c<tt then(b,c,xs) else Xb4 f tt k (b%2^(c-tt)) (c-tt) (xs++[f (b/2^(c-tt))])
theorem Xen (f:Nat→Nat) (tt k b c:Nat) (xs:List Nat) (h:¬c<tt):Xb4 f tt (k+1) b c xs=Xb4 f tt k (b%2^(c-tt)) (c-tt) (xs++[f (b/2^(c-tt))]):=by rw[Xb4,if_neg h]
theorem Xo2 (f:Nat→Nat) (tt:Nat) (ht:1≤tt):∀(k b c:Nat) (xs:List Nat),b<2^c→c≤k→
    (Xb4 f tt k b c xs).2.1<tt∧(Xb4 f tt k b c xs).1<2^(Xb4 f tt k b c xs).2.1∧(Xb4 f tt k b c xs).2.2.length*tt+(Xb4 f tt k b c xs).2.1=xs.length*tt+c:=by
 intro k
 induction k with
 |zero=>intro b c xs hb hc;obtain rfl:c=0:=by omega
        simp[Xb4];exact⟨by omega,by simpa using hb⟩
 |succ k ih=>
  intro b c xs hb hc
  by_cases h:c<tt
  ·rw[Xb4,if_pos h];exact⟨h,hb,rfl⟩
  ·rw[Xen _ _ _ _ _ _ h]
   have:=ih (b%2^(c-tt)) (c-tt) (xs++[f (b/2^(c-tt))]) (Nat.mod_lt _ (Nat.pow_pos (by omega))) (by omega)
   refine⟨this.1,this.2.1,?_⟩
   rw[this.2.2,List.length_append,Nat.add_mul]
   simp
   omega
def alph:List Nat:=[65,66,67,68,69,70,71,72,73,74,75,76,77,78,79,80,81,82,83,84,85,86,87,88,89,90,97,98,99,100,101,102,103,104,105,106,107,108,109,110,111,112,113,114,115,116,117,118,119,120,121,122,48,49,50,51,52,53,54,55,56,57,43,47]
def al (g:Nat):Nat:=alph.getD g 0
theorem Ycx (g:Nat):al g<123:=by
 by_cases h:g<64
 ·exact(by decide:∀g,g<64→al g<123) g h
 ·unfold al;rw[List.getD_eq_getElem?_getD,List.getElem?_eq_none (by simp[alph];omega)];simp
def Xbe (s:Nat×Nat×List Nat) (g:Nat):Nat×Nat×List Nat:=Xb4 al 6 16 (s.1*2^8+g) (s.2.1+8) s.2.2
def Xf9 (l:List Nat):Nat×Nat×List Nat:=l.foldl Xbe (0,0,[])
theorem Xlz (l:List Nat) (g:Nat):Xf9 (l++[g])=Xbe (Xf9 l) g:=by simp[Xf9]
theorem Xix {bits count fr g:Nat} (hbits:bits<2^count) (hg:g<2^fr):bits*2^fr+g<2^(count+fr):=by
 rw[Nat.pow_add]
 have h1:(bits+1)*2^fr≤2^count*2^fr:=Nat.mul_le_mul_right _ (by omega)
 rw[Nat.add_mul] at h1
 generalize 2^count*2^fr=a at*
 generalize bits*2^fr=b at*
 omega
theorem Xqx (s:Nat×Nat×List Nat) (g:Nat) (hg:g<256) (h1:s.2.1<6) (h2:s.1<2^s.2.1):
    (Xbe s g).2.1<6∧(Xbe s g).1<2^(Xbe s g).2.1∧(Xbe s g).2.2.length*6+(Xbe s g).2.1=s.2.2.length*6+s.2.1+8:=by
 have:=Xo2 al 6 (by omega) 16 (s.1*2^8+g) (s.2.1+8) s.2.2 (Xix h2 (by omega)) (by omega)
 exact⟨this.1,this.2.1,by rw[Nat.add_assoc];exact this.2.2⟩
theorem Xg9 (l:List Nat) (hl:∀x∈l,x<256):(Xf9 l).2.1<6∧(Xf9 l).1<2^(Xf9 l).2.1∧(Xf9 l).2.2.length*6+(Xf9 l).2.1=l.length*8:=by
 have key:∀(r:List Nat) (s:Nat×Nat×List Nat),(∀x∈r,x<256)→s.2.1<6→s.1<2^s.2.1→
     (r.foldl Xbe s).2.1<6∧(r.foldl Xbe s).1<2^(r.foldl Xbe s).2.1∧(r.foldl Xbe s).2.2.length*6+(r.foldl Xbe s).2.1=s.2.2.length*6+s.2.1+r.length*8:=by
  intro r
  induction r with
  |nil=>intro s _ h1 h2;exact⟨h1,h2,by simp⟩
  |cons x r ih=>
   intro s hx h1 h2
   have a:=Xqx s x (hx x (by simp)) h1 h2
   have b:=ih (Xbe s x) (fun y hy=>hx y (by simp[hy])) a.1 a.2.1
   rw[List.foldl_cons]
   refine⟨b.1,b.2.1,?_⟩
   rw[b.2.2,a.2.2];simp;omega
 have:=key l (0,0,[]) hl (by simp) (by simp)
 simpa [Xf9] using this
def Xbl (s:Nat×Nat×List Nat):List Nat:=if 0<s.2.1 then s.2.2++[al (s.1*2^(6-s.2.1))] else s.2.2
def Xhn (xs:List Nat):List Nat:=xs++List.replicate ((4-xs.length%4)%4) 61
def Xe5 (l:List Nat):List Nat:=Xhn (Xbl (Xf9 l))
theorem Xof (xs:List Nat) (h:xs.length%4=0):Xhn xs=xs:=by simp[Xhn,h]
theorem Xoe (xs:List Nat) (h:¬xs.length%4=0):Xhn (xs++[61])=Xhn xs:=by
 unfold Xhn
 rw[List.append_assoc,List.length_append]
 congr 1
 have:(4-xs.length%4)%4=(4-(xs.length+1)%4)%4+1:=by omega
 simp only[List.length_singleton]
 rw[this,List.replicate_succ]
 rfl
theorem Xsd (xs:List Nat):(Xhn xs).length=(xs.length+3)/4*4:=by simp[Xhn];omega
theorem Xkj (b c:Nat) (xs:List Nat) (n:Nat) (h:xs.length*6+c=n*8):(Xbl (b,c,xs)).length≤2*n+1:=by
 unfold Xbl
 by_cases hc:0<(b,c,xs).2.1
 ·rw[if_pos hc];simp;omega
 ·rw[if_neg hc];simp;omega
theorem Xyn {l:List Nat} {b c:Nat} {xs:List Nat} (h:Xf9 l=(b,c,xs)):Xhn (Xbl (b,c,xs))=Xe5 l:=by rw[Xe5,h]
def Xaq (l:List Nat):ByteArray:=⟨(l.map UInt8.ofNat).toArray⟩
theorem Xan (l:List Nat):(Xaq l).size=l.length:=by simp[Xaq,ByteArray.size]
def bs (s:ByteArray):List Nat:=s.data.toList.map UInt8.toNat
theorem Xaa (s:ByteArray):(bs s).length=s.size:=by unfold bs;rw[List.length_map];rfl
theorem Yin (s:ByteArray) (i:Nat) (h:i<s.size):(bs s)[i]'(by rw[Xaa];exact h)=s[i].toNat:=by unfold bs;rw[List.getElem_map];rfl
theorem Yf5 (s:ByteArray) (i:Nat) (h:i<s.size):(bs s).getD i 0=s[i].toNat:=by
 rw[List.getD_eq_getElem?_getD,List.getElem?_eq_getElem (by rw[Xaa];exact h),Option.getD_some,Yin s i h]
theorem Xga (s:ByteArray):∀x∈bs s,x<256:=by
 intro x hx
 obtain⟨u,_,rfl⟩:=List.mem_map.1 hx
 exact u.toNat_lt
theorem Xds (s:ByteArray):Xaq (bs s)=s:=by
 unfold Xaq bs
 rw[List.map_map]
 have:(UInt8.ofNat∘UInt8.toNat)=id:=by funext u;exact UInt8.ofNat_toNat
 rw[this,List.map_id]
theorem Xc1 (l:List Nat) (h:∀x∈l,x<256):bs (Xaq l)=l:=by
 unfold Xaq bs
 simp only[List.map_map]
 have:l.map (UInt8.toNat∘UInt8.ofNat)=l.map id:=by
  apply List.map_congr_left
  intro x hx
  exact Nat.mod_eq_of_lt (h x hx)
 rw[this,List.map_id]
def vOf (c:Nat):Option Nat:=(List.range 64).find? (fun i=>al i==c)
theorem Xvo {c v:Nat} (h:vOf c=some v):v<64:=by
 have:=List.mem_of_find?_eq_some h
 simpa using this
theorem Ygx {c v:Nat} (h:vOf c=some v):al v=c:=by
 have:=List.find?_some h
 simpa using this
def Xbi (l:List Nat):Nat:=
 if l.length=0∨l.length%4≠0∨l.getD (l.length-1) 0≠61 then l.length else if l.getD (l.length-2) 0=61 then l.length-2 else l.length-1
theorem Xi4 (l:List Nat):Xbi l≤l.length:=by
 unfold Xbi;split
 ·exact Nat.le_refl _
 ·split<;>omega
def Xa9 (s:Nat×Nat×List Nat) (g:Nat):Nat×Nat×List Nat:=Xb4 id 8 16 (s.1*2^6+g) (s.2.1+6) s.2.2
def Xeh (l:List Nat):Nat×Nat×List Nat:=l.foldl Xa9 (0,0,[])
theorem Xl1 (l:List Nat) (g:Nat):Xeh (l++[g])=Xa9 (Xeh l) g:=by simp[Xeh]
theorem Xq1 (s:Nat×Nat×List Nat) (g:Nat) (hg:g<64) (h1:s.2.1<8) (h2:s.1<2^s.2.1):
    (Xa9 s g).2.1<8∧(Xa9 s g).1<2^(Xa9 s g).2.1∧(Xa9 s g).2.2.length*8+(Xa9 s g).2.1=s.2.2.length*8+s.2.1+6:=by
 have:=Xo2 id 8 (by omega) 16 (s.1*2^6+g) (s.2.1+6) s.2.2 (Xix h2 (by omega)) (by omega)
 exact⟨this.1,this.2.1,by rw[Nat.add_assoc];exact this.2.2⟩
theorem Xkm (l:List Nat) (hl:∀x∈l,x<64):(Xeh l).2.1<8∧(Xeh l).1<2^(Xeh l).2.1∧(Xeh l).2.2.length*8+(Xeh l).2.1=l.length*6:=by
 have key:∀(r:List Nat) (s:Nat×Nat×List Nat),(∀x∈r,x<64)→s.2.1<8→s.1<2^s.2.1→
     (r.foldl Xa9 s).2.1<8∧(r.foldl Xa9 s).1<2^(r.foldl Xa9 s).2.1∧(r.foldl Xa9 s).2.2.length*8+(r.foldl Xa9 s).2.1=s.2.2.length*8+s.2.1+r.length*6:=by
  intro r
  induction r with
  |nil=>intro s _ h1 h2;exact⟨h1,h2,by simp⟩
  |cons x r ih=>
   intro s hx h1 h2
   have a:=Xq1 s x (hx x (by simp)) h1 h2
   have b:=ih (Xa9 s x) (fun y hy=>hx y (by simp[hy])) a.1 a.2.1
   rw[List.foldl_cons]
   refine⟨b.1,b.2.1,?_⟩
   rw[b.2.2,a.2.2];simp;omega
 have:=key l (0,0,[]) hl (by simp) (by simp)
 simpa [Xeh] using this
def Xhi (l:List Nat):Option (List Nat):=l.mapM vOf
theorem Xrn:Xhi []=some []:=rfl
theorem Xnp {l vs:List Nat} {c v:Nat} (h:Xhi l=some vs) (hc:vOf c=some v):Xhi (l++[c])=some (vs++[v]):=by
 simp[Xhi,List.mapM_append] at*
 simp[h,hc]
theorem Xpo:∀{l vs:List Nat},Xhi l=some vs→(∀x∈vs,x<64)∧vs.length=l.length:=by
 intro l
 induction l with
 |nil=>intro vs h;simp[Xhi] at h;subst h;simp
 |cons c l ih=>
  intro vs h
  simp only[Xhi,List.mapM_cons,Option.bind_eq_bind,Option.bind_eq_some_iff,Option.pure_def,Option.some.injEq] at h
  obtain⟨v,hv,r,hr,rfl⟩:=h
  have:=ih hr
  exact⟨by intro x hx;rcases List.mem_cons.1 hx with rfl|hx;exact Xvo hv;exact this.1 x hx,by simp[this.2]⟩
def Ygb (l:List Nat) (n:Nat):Option Nat:=(List.range n).find? (fun i=>(vOf (l.getD i 0)).isNone)
def Xcj (l:List Nat):List Nat×Nat×Nat:=
 if 174764<l.length then([],0,5) else
 match Xhi (l.take (Xbi l)) with
 |none=>([],(Ygb l (Xbi l)).getD 0,6)
 |some vs=>if l.length%4≠0 then([],l.length,4) else if(Xeh vs).1≠0 then([],Xbi l-1,3) else((Xeh vs).2.2,0,0)
theorem Xii {l:List Nat} {j n:Nat} (h:Xhi (l.take (j+1))=none) (hn:j<n):Xhi (l.take n)=none:=by
 have e:l.take n=l.take (j+1)++(l.take n).drop (j+1):=by
  have h1:=(List.take_append_drop (j+1) (l.take n)).symm
  rw[List.take_take,Nat.min_eq_left (by omega)] at h1
  exact h1
 rw[e]
 simp only[Xhi,List.mapM_append] at*
 simp[h]
theorem Xz2 {l vs:List Nat} {i:Nat} (h:Xhi l=some vs) (hi:i<l.length):(vOf l[i]).isSome=true:=by
 induction l generalizing vs i with
 |nil=>simp at hi
 |cons c l ih=>
  simp only[Xhi,List.mapM_cons,Option.bind_eq_bind,Option.bind_eq_some_iff,Option.pure_def,Option.some.injEq] at h
  obtain⟨v,hv,r,hr,rfl⟩:=h
  cases i with
  |zero=>simp[hv]
  |succ i=>simpa using ih hr (by simpa using hi)
theorem Xs4 {l vs:List Nat} {j:Nat} (h:Xhi (l.take j)=some vs) (hj:j<Xbi l) (hjl:j<l.length) (hc:vOf l[j]=none) (hlen:l.length≤174764):Xcj l=([],j,6):=by
 have h1:Xhi (l.take (j+1))=none:=by
  rw[List.take_succ_eq_append_getElem hjl]
  simp only[Xhi,List.mapM_append] at*
  simp[h,hc]
 have h2:Ygb l (Xbi l)=some j:=by
  unfold Ygb
  rw[List.find?_eq_some_iff_getElem]
  refine⟨?_,j,by simpa using hj,by simp,?_⟩
  ·rw[List.getD_eq_getElem?_getD,List.getElem?_eq_getElem hjl];simp[hc]
  ·intro i hi
   have hil:i<(l.take j).length:=by simp;omega
   have:=Xz2 h hil
   simp only[List.getElem_range]
   rw[List.getElem_take] at this
   rw[List.getD_eq_getElem?_getD,List.getElem?_eq_getElem (by omega)]
   simp only[Option.getD_some]
   cases hv:vOf l[i]
   ·rw[hv] at this;simp at this
   ·simp
 unfold Xcj
 rw[if_neg (by omega),Xii h1 hj,h2]
 rfl
theorem Xha {l vs:List Nat} (h:Xhi (l.take (Xbi l))=some vs) (hlen:l.length≤174764):
    Xcj l=if l.length%4≠0 then([],l.length,4) else if(Xeh vs).1≠0 then([],Xbi l-1,3) else((Xeh vs).2.2,0,0):=by
 unfold Xcj
 rw[if_neg (by omega),h]
end Go.Proofs.YtohmdledkhgdaaaGreatDoor
/- strings.Builder at any place of a block: what its methods do. The buffer's head may be frozen (behind String). -/
namespace Go.Proofs.YtohmdledkhgdaaaGreatDoor
open Go.RowKit
set_option linter.unusedVariables false
theorem Xps (s:ByteArray):Lib.strCells s=(bs s).map U:=by
 unfold Lib.strCells bs
 rw[List.map_map]
 rfl
theorem Yhw:(Tryz.prog.info? 5).map (fun i=>(i.zero,i.size,i.bytes))=some (some (.int .u8 0),1,1):=by kernel_rfl
theorem Xmr {w:World} {base e size:Nat} {v:Value} {n:Nat} {xs:List Value} {b t:Nat} {cs:Array Value} {fz:Nat×Nat}
    (hown:w.ownsRowF base e size v n xs) (hT:w.heap[b]?=some (.cells cs t fz)) (hne:t≠e):v.ownBlock≠some b:=by
 intro h
 rcases hown.2 with⟨rfl,_⟩|⟨g,cap,cur,fz',rfl,_,hg,_⟩
 ·simp[Value.ownBlock] at h
 ·simp[Value.ownBlock] at h
  subst h
  rw[hg] at hT
  simp at hT
  exact hne hT.2.1.symm
theorem Xt7 {w:World} {base e size n:Nat} {v:Value} {xs:List Value} (h:w.ownsRowF base e size v n xs):∃a cap,v=.slice a n cap:=by
 rcases h.2 with⟨rfl,rfl⟩|⟨g,cap,cur,fz,rfl,_⟩
 ·exact⟨none,0,rfl⟩
 ·exact⟨some ⟨g,0,none⟩,cap,rfl⟩
def Yj5 (w:World) (v v':Value):Prop:=v'.ownBlock=v.ownBlock∨v'.ownBlock=some w.heap.size
theorem Xvi {P:Program} (w:World) (base:Nat) (t u ty e:TypeId) (i:TypeInfo) (ht:P.underlying t=some (.slice e)) (hu:P.underlying u=some .string) (hi:P.info? e=some i) (hz:i.zero=some (.int .u8 0))
    (hsize:i.size=1) (hby:i.bytes=1) (v:Value) (n:Nat) (xs:List Value) (hown:w.ownsRowF base e 1 v n xs) (s:ByteArray) (hbytes:n+s.size≤140737488355328) (hbase:base≤w.heap.size):
    ∃v' w',(Builtin.append_ #[t,u] ty #[v,.string s]).run P w=.ok v' w'∧w'.ownsRowF base e 1 v' (n+s.size) (xs++Lib.strCells s)∧w.grownBy w' v.ownBlock∧Yj5 w v v':=by
 obtain⟨v',w',hr,h2,h3,h4⟩:=Lib.run_append_own_stringF (P:=P) w base t u ty e i ht hu hi hz hsize hby v n xs hown s (by unfold maxLen;omega) hbytes hbase
 refine⟨v',w',hr,h2,h3,?_⟩
 rcases hown.2 with⟨rfl,rfl⟩|⟨g,cap,cur,fz,rfl,hbg,hg,hfz,hnc,hcm,hcs,htake⟩
 ·by_cases hm:s.size=0
  ·left
   rw[(h4.2 ⟨rfl,hm⟩)]
  ·right
   have hr2:=run_append_nil_string (P:=P) w t u ty e i (.int .u8 0) ht hu hi hz s (by omega) (by omega) (by rw[hby];omega)
   rw[hr] at hr2
   cases hr2
   rfl
 ·by_cases hroom:n+s.size≤cap
  ·left
   have hr2:=Lib.run_append_room_stringF (P:=P) w t u ty e i ht hu hi hsize g n cap cur fz hg (by simpa using hfz) s hroom (by omega)
   rw[hr] at hr2
   cases hr2
   rfl
  ·right
   have hr2:=Lib.run_append_grow_string (P:=P) w t u ty e i (.int .u8 0) ht hu hi hz ⟨g,0,none⟩ n cap xs (by rw[hsize];exact hown.1) (hown.cells (g:=g) rfl) s (by omega) (by omega) (by rw[hby];exact growslice_fits (by omega) (by omega))
   rw[hr] at hr2
   cases hr2
   rfl
structure Bd (w:World) (B b o:Nat) (T:TypeId) (cs:Array Value) (v:Value) (xs:List Nat):Prop where
 heap:w.heap[b]?=some (.cells cs T (0,0))
 addr:cs[o]?=some (.pointer none)∨cs[o]?=some (.pointer (some ⟨b,o,none⟩))
 buf:cs[o+1]?=some v
 row:w.ownsRowF B 5 1 v xs.length (xs.map U)
theorem Xu8 {w:World} {b:Nat} {cs:Array Value} {T:TypeId} {fr:Nat×Nat} (hb:w.heap[b]?=some (.cells cs T fr)) (j:Nat):w.cell? ⟨b,j,none⟩=cs[j]?:=by simp[World.cell?,hb]
theorem Xd3 {w:World} {b:Nat} {cs:Array Value} {T:TypeId} (hb:w.heap[b]?=some (.cells cs T (0,0))) (j:Nat):w.frozen? ⟨b,j,none⟩=false:=by simp[World.frozen?,hb]
theorem Xr4 {w:World} {b:Nat} {cs:Array Value} {T:TypeId} {fr:Nat×Nat} (hb:w.heap[b]?=some (.cells cs T fr)):w.shape? b=some (T,cs.size):=by simp[World.shape?,hb]
theorem Xd0 {w:World} {b:Nat} {cs:Array Value} {T:TypeId} {fr:Nat×Nat} (hb:w.heap[b]?=some (.cells cs T fr)) (j:Nat) (u:Value):(w.setCell ⟨b,j,none⟩ u).heap[b]?=some (.cells (cs.setIfInBounds j u) T fr):=by
 simp[World.setCell,Array.getElem?_modify,hb]
theorem Xjr (w:World) (b j k:Nat) (u:Value) (h:k≠b):(w.setCell ⟨b,j,none⟩ u).heap[k]?=w.heap[k]?:=Below.heap_setCell _ _ _ _ h
theorem Xsg {w:World} {base e size n:Nat} {v:Value} {xs:List Value} (h:w.ownsRowF base e size v n xs) {b:Nat} (hne:v.ownBlock≠some b) (j:Nat) (u:Value):(w.setCell ⟨b,j,none⟩ u).ownsRowF base e size v n xs:=by
 refine⟨h.1,?_⟩
 rcases h.2 with h|⟨g,cap,cur,fz,rfl,hg,hh,r⟩
 ·exact .inl h
 ·exact .inr ⟨g,cap,cur,fz,rfl,hg,(Xjr w b j g u (fun e=>hne (by simp[Value.ownBlock,e]))).trans hh,r⟩
theorem Xj9:∃j,Tryz.prog.info? 80=some j∧j.size≠0:=by
 have h:(Tryz.prog.info? 80).map (·.size)=some 2:=by kernel_rfl
 obtain⟨j,hj,hs⟩:=Option.map_eq_some_iff.1 h
 exact⟨j,hj,by rw[hs];decide⟩
theorem Ybb (w:World) (x:Value):(callFunc 126 #[x]).run Tryz.prog w=.ok (.value x) w:=by
 rw[run_callFunc_extern Tryz.func126 (by kernel_rfl) (by kernel_rfl) (by kernel_rfl) (e:=Extern.AbiNoEscape.same) (by kernel_rfl),Lib.run_noEscape]
 rfl
theorem Ycd (w:World) (b o:Nat) (T:TypeId) (cs:Array Value) (hb:w.heap[b]?=some (.cells cs T (0,0))) (ha:cs[o]?=some (.pointer none))
    (hl:liesAt Tryz.prog Tryz.prog.depth T (cs.size/Tryz.prog.cellsOf T) o 80 1=true):
    Calls Tryz.prog 82 #[.pointer (some ⟨b,o,none⟩)] w fun e w'=>e=.returned (.tuple #[])∧w'=w.setCell ⟨b,o,none⟩ (.pointer (some ⟨b,o,none⟩)):=by
 have hc:=Xu8 hb o
 rw[ha] at hc
 have hf:=Xd3 hb o
 have ho:o<cs.size:=(Array.getElem?_eq_some_iff.1 ha).1
 obtain⟨j,hj,hjs⟩:=Xj9
 have r1:=fun w (h:w.shape? b=some (T,cs.size))=>Lib.run_to_unsafe (P:=Tryz.prog) w (src:=78) (dst:=184) ⟨b,o,none⟩ Tryz.underlying78 Tryz.underlying184 hj hjs h ho
 have r2:=fun w (h:w.shape? b=some (T,cs.size))=>Lib.run_from_unsafe (P:=Tryz.prog) w (src:=184) (dst:=78) ⟨b,o,none⟩ Tryz.underlying184 Tryz.underlying78 hj h hl
 have q1:=r1 w (Xr4 hb)
 have q2:=r2 w (Xr4 hb)
 have e1:=Ybb
 clear r1 r2 hb ha hl hjs
 go_enter Tryz.func82,Tryz.ntmps82
 go_wp2
 go_end0
 exact⟨rfl,rfl⟩
theorem Ycc (w:World) (b o:Nat) (T:TypeId) (cs:Array Value) (hb:w.heap[b]?=some (.cells cs T (0,0))) (ha:cs[o]?=some (.pointer (some ⟨b,o,none⟩))):
    Calls Tryz.prog 82 #[.pointer (some ⟨b,o,none⟩)] w fun e w'=>e=.returned (.tuple #[])∧w=w':=by
 have hc:=Xu8 hb o
 rw[ha] at hc
 obtain⟨j,hj,hjs⟩:=Xj9
 have r1:=fun w=>Lib.run_neq_ptr_same (P:=Tryz.prog) w (tp:=78) ⟨b,o,none⟩ Tryz.underlying78 hj
 clear hb ha hjs
 go_enter Tryz.func82,Tryz.ntmps82
 go_wp2
 go_end0
 exact⟨rfl,rfl⟩
theorem Xg0 {P:Program} {w:World} {ops:Array Oper} {rest:List Oper} {o:Oper} {a:Act} {Q:Exit→Act→World→Prop} (hgd:o.guard=none) (sl x:Operand) (t u:TypeId)
    (ho:o.op=.call {callee:=.builtin .append,args:=#[sl,x],argTypes:=#[t,u]})
    (base:Nat) (e:TypeId) (i:TypeInfo) (ht:P.underlying t=some (.slice e)) (hu:P.underlying u=some .string) (hi:P.info? e=some i) (hz:i.zero=some (.int .u8 0))
    (hsize:i.size=1) (hby:i.bytes=1)
    (v:Value) (n:Nat) (xs:List Value) (hs:a.eval sl=v) (hown:w.ownsRowF base e 1 v n xs) (s:ByteArray) (hx:a.eval x=.string s) (hbytes:n+s.size≤140737488355328) (hbase:base≤w.heap.size)
    (h:∀v' w',w'.ownsRowF base e 1 v' (n+s.size) (xs++Lib.strCells s)→w.grownBy w' v.ownBlock→Yj5 w v v'→wpList P ops Q rest (a.put o.dst v') w'):wpList P ops Q (o::rest) a w:=by
 refine wpList_plain hgd fun K hK=>?_
 obtain⟨v',w',hr,h2,h3,h4⟩:=Xvi (P:=P) w base t u o.type e i ht hu hi hz hsize hby v n xs hown s hbytes hbase
 unfold Oper.wp execOp
 simp only[ho,resolve,invoke,builtin,Sem.run_bind,Sem.run_pure,Result.andThen_ok,List.map_toArray,List.map_cons,List.map_nil,hs,hx,hr]
 exact hK _ _ (h v' w' h2 h3 h4)
structure FrB (b:Nat) (v:Value) (w w':World):Prop where
 os:w'.os=w.os
 tape:w'.tape=w.tape
 output:w'.output=w.output
 size:w.heap.size≤w'.heap.size
 other:∀k,k<w.heap.size→k≠b→v.ownBlock≠some k→w'.heap[k]?=w.heap[k]?
theorem FrB.below {b B:Nat} {v:Value} {w w':World} (h:FrB b v w w') (hB:B≤w.heap.size) (hb:B≤b) (hv:∀k,v.ownBlock=some k→B≤k):Below B w w':=
 ⟨h.os,h.tape,h.output,h.size,fun k hk=>h.other k (by omega) (by omega) (fun e=>by have:=hv k e;omega)⟩
def Ydy (w:World) (B b o:Nat) (T:TypeId) (cs:Array Value) (v:Value) (xs:List Nat) (w':World):Prop:=
 ∃cs' v',Bd w' B b o T cs' v' xs∧cs'.size=cs.size∧(∀j,j≠o→j≠o+1→cs'[j]?=cs[j]?)∧(v'.ownBlock=v.ownBlock∨∃g,v'.ownBlock=some g∧w.heap.size≤g)∧FrB b v w w'
theorem Ycp {w w0 w1:World} {B b o T:Nat} {cs:Array Value} {v v':Value} {ys:List Nat} {n:Nat} (hT:T≠5) (hB:B≤w.heap.size) (hb:w.heap[b]?=some (.cells cs T (0,0))) (ho:o+1<cs.size)
    (hb0:w0.heap[b]?=some (.cells (cs.setIfInBounds o (.pointer (some ⟨b,o,none⟩))) T (0,0))) (hne:v.ownBlock≠some b)
    (hw0:w0.os=w.os∧w0.tape=w.tape∧w0.output=w.output∧w.heap.size≤w0.heap.size∧∀k,k<w.heap.size→k≠b→w0.heap[k]?=w.heap[k]?)
    (hown:w1.ownsRowF B 5 1 v' n (ys.map U)) (hn:n=ys.length) (hg:w0.grownBy w1 v.ownBlock) (hl:Yj5 w0 v v'):
    Ydy w B b o T cs v ys (w1.setCell ⟨b,o+1,none⟩ v'):=by
 subst hn
 have hlt0:b<w0.heap.size:=lt_of_block hb0
 have hb1:w1.heap[b]?=some (.cells (cs.setIfInBounds o (.pointer (some ⟨b,o,none⟩))) T (0,0)):=(hg.block b hlt0 (fun e=>hne e.symm)).trans hb0
 have hne':v'.ownBlock≠some b:=Xmr hown hb1 hT
 refine⟨_,v',⟨Xd0 hb1 _ _,.inr ?_,?_,Xsg hown hne' _ _⟩,by simp,?_,?_,?_⟩
 ·rw[Array.getElem?_setIfInBounds_ne (by omega),Array.getElem?_setIfInBounds_self,if_pos (by omega)]
 ·rw[Array.getElem?_setIfInBounds_self,if_pos (by simpa using ho)]
 ·intro j h1 h2
  rw[Array.getElem?_setIfInBounds_ne (by omega),Array.getElem?_setIfInBounds_ne (by omega)]
 ·rcases hl with h|h
  ·exact .inl h
  ·exact .inr ⟨_,h,hw0.2.2.2.1⟩
 ·refine⟨hg.os.trans hw0.1,hg.tape.trans hw0.2.1,hg.output.trans hw0.2.2.1,?_,?_⟩
  ·have:=hg.size
   have:=hw0.2.2.2.1
   simp[World.setCell]
   omega
  ·intro k hk h1 h2
   rw[Xjr _ _ _ _ _ h1,hg.block k (Nat.lt_of_lt_of_le hk hw0.2.2.2.1) (fun e=>h2 e.symm),hw0.2.2.2.2 k hk h1]
structure Copied (w w0:World) (b o:Nat) (T:TypeId) (cs:Array Value):Prop where
 heap:w0.heap[b]?=some (.cells (cs.setIfInBounds o (.pointer (some ⟨b,o,none⟩))) T (0,0))
 same:w0.os=w.os∧w0.tape=w.tape∧w0.output=w.output∧w.heap.size≤w0.heap.size∧∀k,k<w.heap.size→k≠b→w0.heap[k]?=w.heap[k]?
theorem Yaj {cs:Array Value} {o:Nat} {x:Value} (h:cs[o]?=some x):cs.setIfInBounds o x=cs:=by
 obtain⟨ho,hx⟩:=Array.getElem?_eq_some_iff.1 h
 apply Array.ext
 ·simp
 ·intro i h1 h2
  rw[Array.getElem_setIfInBounds (by simpa using h1)]
  split
  ·rename_i e;subst e;exact hx.symm
  ·rfl
theorem Yce (w:World) (B b o:Nat) (T:TypeId) (cs:Array Value) (v:Value) (xs:List Nat) (h:Bd w B b o T cs v xs) (hT:T≠5)
    (hl:liesAt Tryz.prog Tryz.prog.depth T (cs.size/Tryz.prog.cellsOf T) o 80 1=true):
    ∃w0,Copied w w0 b o T cs∧w0.ownsRowF B 5 1 v xs.length (xs.map U)∧Calls Tryz.prog 82 #[.pointer (some ⟨b,o,none⟩)] w fun e w'=>e=.returned (.tuple #[])∧w0=w':=by
 obtain⟨hb,ha,hbuf,hrow⟩:=h
 have hne:=Xmr hrow hb hT
 rcases ha with ha|ha
 ·exact⟨_,⟨Xd0 hb o _,rfl,rfl,rfl,by simp[World.setCell],fun k _ hk=>Xjr _ _ _ _ _ hk⟩,Xsg hrow hne o _,(Ycd w b o T cs hb ha hl).mono fun e w' ⟨h1,h2⟩=>⟨h1,h2.symm⟩⟩
 ·exact⟨w,⟨by rw[Yaj ha];exact hb,rfl,rfl,rfl,Nat.le_refl _,fun k _ _=>rfl⟩,hrow,Ycc w b o T cs hb ha⟩
set_option maxHeartbeats 400000 in
theorem Xi7 (w:World) (B b o:Nat) (T:TypeId) (cs:Array Value) (v:Value) (xs:List Nat) (s:ByteArray) (h:Bd w B b o T cs v xs) (hT:T≠5) (hBw:B≤w.heap.size)
    (hl:liesAt Tryz.prog Tryz.prog.depth T (cs.size/Tryz.prog.cellsOf T) o 80 1=true) (hlen:xs.length+s.size≤140737488355328):
    Calls Tryz.prog 41 #[.pointer (some ⟨b,o,none⟩),.string s] w fun e w'=>e=.returned (.tuple #[.int .i64 (s.size:Int),.nilIface])∧Ydy w B b o T cs v (xs++bs s) w':=by
 obtain⟨i0,hi0,hz0,hz1,hz2⟩:=info_parts Yhw
 obtain⟨w0,hcp,hrow0,hcall⟩:=Yce w B b o T cs v xs h hT hl
 obtain⟨hb,ha,hbuf,hrow⟩:=h
 have ho:o+1<cs.size:=(Array.getElem?_eq_some_iff.1 hbuf).1
 have hne:=Xmr hrow hb hT
 have fin:=fun(v':Value) (w1:World) hown1 hg hli=>Ycp (w:=w) (w0:=w0) (w1:=w1) (v':=v') (ys:=xs++bs s) (n:=xs.length+s.size) hT hBw hb ho hcp.heap hne hcp.same hown1 (by rw[List.length_append,Xaa]) hg hli
 have hsm:s.size≤9223372036854775807:=by omega
 have C1:=Hd hcall
 have hbs0:B≤w0.heap.size:=Nat.le_trans hBw hcp.same.2.2.2.1
 have hc1:w0.cell? ⟨b,o+1,none⟩=some v:=by rw[Xu8 hcp.heap,Array.getElem?_setIfInBounds_ne (by omega)];exact hbuf
 have FIN:=Hd fin;have HB0:=Hd hcp.heap;have HBF:=Hd hbuf
 clear hcp fin hb hbuf hl ha hcall
 go_enter Tryz.func41,Tryz.ntmps41
 go_wp2_with (first|(go_at_call 82;refine C1.out.mono ?_;rintro e w' ⟨rfl,rfl⟩)|(at_builtin;refine Xg0 rfl _ _ _ _ rfl B 5 i0 Tryz.underlying62 Tryz.underlying9 hi0 hz0 hz1 hz2 v xs.length (xs.map U) rfl hrow0 s rfl hlen hbs0 ?_;intro v' w1 hown1 hgrow hli;obtain⟨a2,c2,rfl⟩:=Xt7 hown1;have hb1:=(hgrow.block b (lt_of_block HB0.out) (fun e=>hne e.symm)).trans HB0.out;have c1:=Xu8 hb1 (o+1);rw[Array.getElem?_setIfInBounds_ne (by omega),HBF.out] at c1;have f1:=Xd3 hb1 (o+1);clear hb1))
 go_ret2
 refine⟨rfl,FIN.out _ _ ?_ hgrow hli⟩
 rw[List.map_append,←Xps]
 exact hown1
theorem Yim:Tryz.prog.cellsOf 5=1:=by kernel_rfl
theorem Xot {w:World} {g n:Nat} {cur:Array Value} {e:TypeId} {fz:Nat×Nat} (hg:w.heap[g]?=some (.cells cur e fz)) (hn:n≠0) (hfz:fz.2≤n):
    ∃fz',(w.freeze ⟨g,0,none⟩ n).heap[g]?=some (.cells cur e fz')∧fz'.2≤n:=by
 obtain⟨lo,hi⟩:=fz
 simp only at hfz
 unfold World.freeze
 rw[if_neg hn]
 simp only[Array.getElem?_modify,hg,if_true,Option.map_some]
 refine⟨_,rfl,?_⟩
 split
 ·simp
 ·simp only[Nat.zero_add];omega
theorem Xib {w:World} {g n k:Nat} (h:k≠g):(w.freeze ⟨g,0,none⟩ n).heap[k]?=w.heap[k]?:=by
 unfold World.freeze
 split
 ·rfl
 ·simp only[Array.getElem?_modify]
  rw[if_neg (by omega)]
theorem Xqo (w:World) (g n:Nat):(w.freeze ⟨g,0,none⟩ n).heap.size=w.heap.size:=by
 unfold World.freeze
 split
 ·rfl
 ·simp
theorem Xy9 {w:World} {B b o T g n cap:Nat} {cs:Array Value} {xs:List Nat} (h:Bd w B b o T cs (.slice (some ⟨g,0,none⟩) n cap) xs) (hT:T≠5) (hn:n=xs.length) (h0:n≠0):
    Bd (w.freeze ⟨g,0,none⟩ n) B b o T cs (.slice (some ⟨g,0,none⟩) n cap) xs∧FrB b (.slice (some ⟨g,0,none⟩) n cap) w (w.freeze ⟨g,0,none⟩ n):=by
 have hne:=Xmr h.row h.heap hT
 have hgb:b≠g:=fun e=>hne (by simp[Value.ownBlock,e])
 refine⟨⟨(Xib hgb).trans h.heap,h.addr,h.buf,h.row.1,?_⟩,?_⟩
 ·rcases h.row.2 with⟨hv,_⟩|⟨g',cap',cur,fz,hv,hb,hg,hfz,r⟩
  ·simp at hv
  ·have hv':=hv
   simp only[Value.slice.injEq,Option.some.injEq,Addr.mk.injEq] at hv'
   obtain⟨⟨rfl,_⟩,_,rfl⟩:=hv'
   obtain⟨fz',h1,h2⟩:=Xot hg h0 (by rw[hn];simpa using hfz)
   exact .inr ⟨g,cap,cur,fz',hv,hb,h1,by rw[←hn];simpa using h2,r⟩
 ·refine⟨?_,?_,?_,by rw[Xqo];exact Nat.le_refl _,fun k _ _ h2=>Xib (fun e=>h2 (by simp[Value.ownBlock,e]))⟩<;>(unfold World.freeze;split<;>rfl)
theorem FrB.refl (b:Nat) (v:Value) (w:World):FrB b v w w:=⟨rfl,rfl,rfl,Nat.le_refl _,fun _ _ _ _=>rfl⟩
theorem Bd.drewN {w:World} {B b o T:Nat} {cs:Array Value} {v:Value} {xs:List Nat} (h:Bd w B b o T cs v xs) (n:Nat):Bd (w.drewN n) B b o T cs v xs:=⟨h.1,h.2,h.3,h.4⟩
theorem Bd.drew {w:World} {B b o T:Nat} {cs:Array Value} {v:Value} {xs:List Nat} (h:Bd w B b o T cs v xs):Bd w.drew B b o T cs v xs:=⟨h.1,h.2,h.3,h.4⟩
theorem FrB.drew {b:Nat} {v:Value} {w w':World} (h:FrB b v w w'):FrB b v w w'.drew:=⟨h.1,h.2,h.3,h.4,h.5⟩
theorem Xt8 {w:World} {base e size n:Nat} {v:Value} {xs:List Value} (h:w.ownsRowF base e size v n xs) (o:Obj):(w.alloc o).ownsRowF base e size v n xs:=
 h.kept (World.grownBy_alloc w o none) (by cases hv:v.ownBlock<;>simp)
theorem Bd.alloc {w:World} {B b o T:Nat} {cs:Array Value} {v:Value} {xs:List Nat} (h:Bd w B b o T cs v xs) (x:Obj):Bd (w.alloc x) B b o T cs v xs:=⟨Xaf h.1,h.2,h.3,Xt8 h.4 x⟩
theorem FrB.alloc {b:Nat} {v:Value} {w w':World} (h:FrB b v w w') (x:Obj):FrB b v w (w'.alloc x):=⟨h.1,h.2,h.3,by have:=h.4;simp;omega,fun k hk h1 h2=>(Below.heap_alloc w' x k (Nat.lt_of_lt_of_le hk h.4)).trans (h.5 k hk h1 h2)⟩
def Ygg (w:World) (B b o:Nat) (T:TypeId) (cs:Array Value) (v:Value) (xs:List Nat) (e:Ending) (w':World):Prop:=
 e=.returned (.string (Xaq xs))∧Bd w' B b o T cs v xs∧FrB b v w w'
set_option maxHeartbeats 400000 in
theorem Xrb (w:World) (B b o:Nat) (T:TypeId) (cs:Array Value) (v:Value) (xs:List Nat) (h:Bd w B b o T cs v xs) (hT:T≠5) (hx:∀x∈xs,x<256) (hlen:xs.length≤140737488355328):
    Calls Tryz.prog 43 #[.pointer (some ⟨b,o,none⟩)] w (Ygg w B b o T cs v xs):=by
 have hc1:=Xu8 h.heap (o+1)
 rw[h.buf] at hc1
 rcases h.row.2 with⟨rfl,h0⟩|⟨g,cap,cur,fz,rfl,hbg,hg,hfz,hnc,hcm,hcs,htake⟩
 ·obtain rfl:xs=[]:=List.eq_nil_of_length_eq_zero h0
  have H:=Hd h
  have s1:=fun(w:World)=>Lib.run_unsafeSliceData_nil (P:=Tryz.prog) w #[62] 132 0 0
  have s2:=fun(w:World)=>Lib.run_unsafeString_none (P:=Tryz.prog) w 132 3 9 none
  clear h
  go_enter Tryz.func43,Tryz.ntmps43
  go_wp2_with fail
  go_region
  all_goals go_wp2_with fail
  all_goals go_ret
  all_goals exact⟨rfl,H.out.drew,(FrB.refl _ _ _).drew⟩
 ·obtain⟨n,hn⟩:∃n,n=xs.length:=⟨_,rfl⟩
  rw[←hn] at hc1 h⊢
  by_cases h0:n=0
  ·obtain rfl:xs=[]:=List.eq_nil_of_length_eq_zero (by omega)
   subst h0
   have H:=Hd h
   have s2:=fun(w:World) (p:Option Addr)=>Lib.run_unsafeString_none (P:=Tryz.prog) w 132 3 9 p
   by_cases hc0:cap=0
   ·subst hc0
    have s1:=Lib.run_unsafeSliceData_zero (P:=Tryz.prog) w.drew #[62] 132 5 Tryz.underlying132 ⟨g,0,none⟩ 0 _ (Xr4 (w:=w.drew) hg)
    have h1':=Xu8 (w:=w.alloc (.view ⟨g,0,none⟩ 5)) (Xaf h.heap) (o+1)
    rw[h.buf] at h1'
    clear h hg hcs htake hfz hnc hcm hn
    go_enter Tryz.func43,Tryz.ntmps43
    go_wp2_with fail
    go_region
    all_goals go_wp2_with fail
    all_goals go_ret
    all_goals exact⟨rfl,(H.out.alloc _).drew,((FrB.refl _ _ _).alloc _).drew⟩
   ·have s1:=fun(w:World)=>Lib.run_unsafeSliceData_row (P:=Tryz.prog) w #[62] 132 ⟨g,0,none⟩ 0 cap hc0
    clear h hg hcs htake hfz hnc hcm hn
    go_enter Tryz.func43,Tryz.ntmps43
    go_wp2_with fail
    go_region
    all_goals go_wp2_with fail
    all_goals go_ret
    all_goals exact⟨rfl,H.out.drew,(FrB.refl _ _ _).drew⟩
  ·have H:=Hd (Xy9 h.drew hT hn h0)
   have s1:=fun(w:World)=>Lib.run_unsafeSliceData_row (P:=Tryz.prog) w #[62] 132 ⟨g,0,none⟩ n cap (by omega)
   have hl:(xs.map UInt8.ofNat).length=n:=by rw[List.length_map,hn]
   have s2:(Builtin.unsafeString_ #[132,3] 9 #[.pointer (some ⟨g,0,none⟩),.int .i64 (n:Int)]).run Tryz.prog w.drew=.ok (.string (Xaq xs)) (w.drew.freeze ⟨g,0,none⟩ n):=by
    have hs:=Lib.run_unsafeString_row (P:=Tryz.prog) w.drew 132 3 9 5 Tryz.underlying132 Yim g cur.size (Xr4 hg) (xs.map UInt8.ofNat) (by intro e;rw[e] at hl;simp at hl;omega) (by rw[hl,hcs];omega) (by rw[hl];omega) ?_
    ·rw[hl] at hs
     exact hs
    ·intro j x hj
     have hjl:j<xs.length:=by have:=(List.getElem?_eq_some_iff.1 hj).1;simpa using this
     have hc:=h.row.cells (g:=g) rfl j (U xs[j]) (by rw[List.getElem?_map,List.getElem?_eq_getElem hjl];rfl)
     rw[List.getElem?_map,List.getElem?_eq_getElem hjl] at hj
     simp only[Option.map_some,Option.some.injEq] at hj
     subst hj
     have hx1:=hx _ (List.getElem_mem hjl)
     have e2:(UInt8.ofNat xs[j]).toNat=xs[j]:=Nat.mod_eq_of_lt hx1
     rw[e2]
     exact hc
   have hn63:n≤9223372036854775807:=by omega
   clear h hl hcs htake hg hfz hnc hcm hn hx
   go_enter Tryz.func43,Tryz.ntmps43
   go_wp2_with fail
   go_region
   all_goals go_wp2_with fail
   all_goals go_ret
   all_goals exact⟨rfl,H.out.1,⟨H.out.2.1,H.out.2.2,H.out.2.3,H.out.2.4,H.out.2.5⟩⟩
end Go.Proofs.YtohmdledkhgdaaaGreatDoor
/- Laws on values that are arrays or structs of many cells, the cells whatever: a load out of the middle of a block, a build, a store into a new block, a comparison. -/
namespace Go.Proofs.YtohmdledkhgdaaaGreatDoor
open Go.RowKit Go.Maps
set_option linter.unusedVariables false
set_option maxRecDepth 100000
section
variable {P:Program} {ops:Array Oper} {rest:List Oper} {o:Oper} {a:Act} {w w':World} {Q:Exit→Act→World→Prop} {v:Value}
theorem Xaz (hgd:o.guard=none) (h:(execOp a.eval o).run P w=.ok (.value v) w') (hk:wpList P ops Q rest (a.put o.dst v) w'):wpList P ops Q (o::rest) a w:=
 wpList_plain hgd fun K hK=>by unfold Oper.wp;rw[h];exact hK _ _ hk
theorem Xe8 (hgd:o.guard=none) (h:(execOp a.eval o).run P w=.ok .skip w') (hk:wpList P ops Q rest (a.put o.dst undef) w'):wpList P ops Q (o::rest) a w:=
 wpList_plain hgd fun K hK=>by unfold Oper.wp;rw[h];exact hK _ _ hk
theorem Xjo {C:World→Prop} {K:Act→Prop} (h:∀w,C w→(execOp a.eval o).run P w=.ok (.value v) w) (hk:K (a.put o.dst v)):o.quiet P a C K:=
 ⟨v,fun w hw=>by unfold Oper.quietAt;rw[h w hw];exact⟨rfl,rfl⟩,hk⟩
theorem Xaw {ty:TypeId} {x:Operand} {ad:Addr} (ho:o.op=.load ty x) (hx:a.eval x=.pointer (some ad)) (hl:(loadVar ty ad).run P w=.ok v w):(execOp a.eval o).run P w=.ok (.value v) w:=by
 unfold execOp
 simp only[ho,hx,Instr.loadAt,Instr.sureAddr,Sem.run_bind,Sem.run_pure,Result.andThen_ok,hl]
theorem Xcr {t:TypeId} {ps:Array (Nat×Operand)} (ho:o.op=.build t ps) (hb:(Instr.build t (ps.map fun(i,x)=>(i,a.eval x))).run P w=.ok v w):(execOp a.eval o).run P w=.ok (.value v) w:=by
 unfold execOp
 simp only[ho,Sem.run_bind,Sem.run_pure,Result.andThen_ok,hb]
theorem Xax {t:TypeId} {x y:Operand} {ad:Addr} {u:Value} (ho:o.op=.store t x y) (hx:a.eval x=.pointer (some ad)) (hy:a.eval y=u) (hs:(storeVar t ad u).run P w=.ok () w'):(execOp a.eval o).run P w=.ok .skip w':=by
 unfold execOp
 simp only[ho,hx,hy,Instr.storeAt,Instr.sureAddr,Sem.run_bind,Sem.run_pure,Result.andThen_ok,hs]
theorem Xsz {t t':TypeId} {x y:Operand} {xs ys:Array Value} {r:Bool} (ho:o.op=.binOp .eql t x y t') (hx:a.eval x=.agg xs) (hy:a.eval y=.agg ys) (hm:P.eqGuardType P.depth t=false) (he:(Op.equal t (.agg xs) (.agg ys)).run P w=.ok r w):(execOp a.eval o).run P w=.ok (.value (.bool r)) w:=by
 unfold execOp
 simp only[ho,hx,hy,Sem.run_bind,Sem.run_pure,Result.andThen_ok,run_eqGuard_agg w _ _ _ _ _ _ hm,binOp,he]
theorem Xm2 {t t':TypeId} {x y:Operand} {xs ys:Array Value} {r:Bool} (ho:o.op=.binOp .neq t x y t') (hx:a.eval x=.agg xs) (hy:a.eval y=.agg ys) (hm:P.eqGuardType P.depth t=false) (he:(Op.equal t (.agg xs) (.agg ys)).run P w=.ok r w):(execOp a.eval o).run P w=.ok (.value (.bool !r)) w:=by
 unfold execOp
 simp only[ho,hx,hy,Sem.run_bind,Sem.run_pure,Result.andThen_ok,run_eqGuard_agg w _ _ _ _ _ _ hm,binOp,he]
theorem Xey (w:World) (g off:Nat) (t ty:TypeId) (cs ids:Array Value) (fr:Nat×Nat) (d:TypeDesc) (hg:w.heap[g]?=some (.cells cs t fr))
    (hu:P.underlying ty=some d) (hd:(match d with|.struct _|.array _ _=>true|_=>false)=true) (hi:(P.info? ty).map (·.size)=some ids.size)
    (hp:∀j u,ids[j]?=some u→cs[off+j]?=some u):(loadVar ty ⟨g,off,none⟩).run P w=.ok (.agg ids) w:=by
 have hl:(loadCells ⟨g,off,none⟩ ids.toList.length).run P w=.ok ids.toList.toArray w:=
  run_loadCells_list (P:=P) w ⟨g,off,none⟩ ids.toList (fun j u hv=>by
   have hadd:(⟨g,off,none⟩:Addr).add j=⟨g,off+j,none⟩:=by unfold Addr.add;split<;>simp_all
   rw[hadd,cell_of_row w g (off+j) cs t fr hg]
   exact hp j u (by simpa using hv))
 cases hq:P.info? ty with
 |none=>simp[hq] at hi
 |some i=>
  have hs:i.size=ids.size:=by simpa [hq] using hi
  have hagg:(isAgg ty).run P w=.ok true w:=by
   unfold isAgg
   rw[Sem.run_bind,run_underlying hu w]
   cases d<;>simp_all
  simp only[Array.length_toList,Array.toArray_toList] at hl
  simp[loadVar,Sem.run_bind,hagg,sizeOf,typeInfo,hq,hs,hl]
end
end Go.Proofs.YtohmdledkhgdaaaGreatDoor
/- Identities as cells; parts of blocks; builds of structs. -/
namespace Go.Proofs.YtohmdledkhgdaaaGreatDoor
open Go.RowKit Go.Maps
set_option linter.unusedVariables false
set_option maxRecDepth 100000
def idA (l:List Nat):Array Value:=(l.map U).toArray
structure IdOk (l:List Nat):Prop where
 len:l.length=32
 lt:∀x∈l,x<256
theorem Xag (l:List Nat):(idA l).size=l.length:=by simp[idA]
theorem Yit (xs:List Value) (l:List Nat) (ys:List Value) (n:Nat) (h:xs.length=n):∀j u,(idA l)[j]?=some u→(xs++l.map U++ys).toArray[n+j]?=some u:=by
 intro j u hu
 subst h
 unfold idA at hu
 rw[List.getElem?_toArray] at hu⊢
 have hj:=(List.getElem?_eq_some_iff.1 hu).1
 rw[List.append_assoc,List.getElem?_append_right (by omega),Nat.add_sub_cancel_left,List.getElem?_append_left hj]
 exact hu
theorem Xbf:(Tryz.prog.info? 26).map (·.size)=some 32:=by kernel_rfl
theorem Xjx (w:World) (g off:Nat) (t:TypeId) (cs:Array Value) (fr:Nat×Nat) {l:List Nat} (h:l.length=32) (hg:w.heap[g]?=some (.cells cs t fr)) (hp:∀j u,(idA l)[j]?=some u→cs[off+j]?=some u):
    (loadVar 26 ⟨g,off,none⟩).run Tryz.prog w=.ok (.agg (idA l)) w:=
 Xey w g off t 26 cs (idA l) fr _ hg Tryz.underlying26 rfl (by rw[Xag,h];exact Xbf) hp
def z32:List Value:=List.replicate 32 (.int .u8 0)
end Go.Proofs.YtohmdledkhgdaaaGreatDoor
/- Comparisons of identities. -/
namespace Go.Proofs.YtohmdledkhgdaaaGreatDoor
open Go.RowKit Go.Maps
set_option linter.unusedVariables false
set_option maxRecDepth 100000
theorem Xjw {α β:Type} (f:α→Option β) (g:α→β):∀(L:List α),(∀i∈L,f i=some (g i))→L.mapM f=some (L.map g)
 |[],_=>rfl
 |x::L,h=>by
  rw[List.mapM_cons,h x (by simp),Xjw f g L (fun i hi=>h i (by simp[hi]))]
  rfl
theorem Xna:Tryz.prog.cellsOf 26=32:=by kernel_rfl
theorem Ydu:Tryz.prog.cellsOf 5=1:=by kernel_rfl
def Xco (l:List Nat):List Lit:=l.map fun n:Nat=>Lit.int .u8 (n:Int)
theorem Xid {l m:List Nat} (h:Xco l=Xco m):l=m:=by
 unfold Xco at h
 exact(List.map_inj_right (fun a b hab=>by simp at hab;omega)).1 h
section
variable {P:Program} {d n:Nat} {t e:TypeId} {cs:List Value} {fs:Array Field} {q:IntKind}
theorem Xg6 (hu:P.underlying t=some (.array n e)):P.keyLits (d+1) t cs=if cs.length=P.cellsOf t then((List.range n).mapM fun i=>P.keyLits d e ((cs.drop (i*P.cellsOf e)).take (P.cellsOf e))).map List.flatten else none:=by
 rw[Program.keyLits.eq_def];simp only[hu]
theorem Xj3 (hu:P.underlying t=some (.int q)) {m:Int} (hw:(Lit.int q m).wf=true):P.keyLits (d+1) t [.int q m]=some [.int q m]:=by
 rw[Program.keyLits.eq_def];simp only[hu,hw,and_self,if_true]
end
theorem Xqc (D:Nat) {l:List Nat} (h:IdOk l):Tryz.prog.keyLits (D+2) 26 (l.map U)=some (Xco l):=by
 rw[Xg6 Tryz.underlying26,if_pos (by rw[List.length_map,h.len,Xna])]
 rw[Xjw _ (fun i=>[Lit.int .u8 (l.getD i 0:Int)])]
 ·simp only[Option.map_some,Option.some.injEq]
  unfold Xco
  have:(List.range 32).map (fun i=>[Lit.int .u8 (l.getD i 0:Int)])=(l.map fun n:Nat=>[Lit.int .u8 (n:Int)]):=by
   apply List.ext_getElem
   ·simp[h.len]
   ·intro i h1 h2
    simp at h1
    simp[List.getD,List.getElem?_eq_getElem (show i<l.length by rw[h.len];exact h1)]
  rw[this]
  clear this h
  induction l with
  |nil=>rfl
  |cons x l ih=>simp[ih]
 ·intro i hi
  have hi':i<l.length:=by rw[h.len];exact List.mem_range.1 hi
  have hx:=h.lt _ (List.getElem_mem hi')
  have e:((l.map U).drop (i*Tryz.prog.cellsOf 5)).take (Tryz.prog.cellsOf 5)=[Value.int .u8 (l[i]:Int)]:=by
   rw[Ydu,Nat.mul_one,List.drop_eq_getElem_cons (by simpa using hi')]
   simp[U]
  rw[e,Xj3 Tryz.underlying5 (by simp[Lit.wf,IntKind.min,IntKind.max,IntKind.signed,IntKind.bits];omega)]
  simp[List.getD,List.getElem?_eq_getElem hi']
theorem Xuw (w:World) {l m:List Nat} (hl:IdOk l) (hm:IdOk m):(Op.equal 26 (.agg (idA l)) (.agg (idA m))).run Tryz.prog w=.ok (decide (l=m)) w:=by
 obtain⟨r,hr,hiff⟩:=run_equalIn_deep (P:=Tryz.prog) 9997 3 26 (by kernel_rfl) w 2 2 (.agg (idA l)) (.agg (idA m)) (Xco l) (Xco m) (by simp[Value.formed,Tryz.underlying26,Xna,Xag,hl.len]) (by simp[Value.formed,Tryz.underlying26,Xna,Xag,hm.len]) (Xqc 0 hl) (Xqc 0 hm)
 have e:r=decide (l=m):=by
  rw[Bool.eq_iff_iff,hiff,decide_eq_true_iff]
  exact⟨Xid,fun e=>by rw[e]⟩
 rw[←e]
 exact hr
theorem Xbw:Tryz.prog.eqGuardType Tryz.prog.depth 26=false:=by kernel_rfl
end Go.Proofs.YtohmdledkhgdaaaGreatDoor
