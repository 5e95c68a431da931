/- bulletinlaw18.Fits. -/
import Derived.Test.YtohmdledkhgdaaaGreatDoorPa22
import Derived.Test.YtohmdledkhgdaaaGreatDoorRows
import Derived.ProofKit
import Derived.ShutString
import Derived.ChangeOld
import Derived.Below
import Derived.SizedLaws
import Derived.Deep.DeepHandedRow
import Derived.Deep.Slices
import Derived.Test.YtohmdledkhgdaaaGreatDoorCards
import Derived.Test.YtohmdledkhgdaaaGreatDoorTie
import Derived.LaidSub
import Derived.Lay
import Derived.LaidMore
namespace Go.Proofs.YtohmdledkhgdaaaGreatDoor
open Go.RowKit
set_option linter.unusedVariables false
set_option maxRecDepth 100000
def Xes:Nat:=140737488355328
structure CnArg (w:World) (c:Cn) (gv rv:Value):Prop where
 ok:c.Ok
 name:c.name.size≤Xes
 subject:c.subject.size≤Xes
 ctl:c.ctl.size≤Xes
 dist:c.dist.size≤Xes
 body:c.body.size≤Xes
 gl:c.groups.length≤Xes
 gz:∀g∈c.groups,g.size≤Xes
 rl:c.refs.length≤Xes
 srow:SRow w gv c.groups
 irow:IRow w rv c.refs
theorem CnArg.on {w w':World} {c:Cn} {gv rv:Value} (h:CnArg w c gv rv) (hb:Below w.heap.size w w'):CnArg w' c gv rv:=⟨h.ok,h.name,h.subject,h.ctl,h.dist,h.body,h.gl,h.gz,h.rl,h.srow.below hb,h.irow.below hb⟩
def tot (l:List ByteArray):Nat:=(l.map ByteArray.size).sum
theorem Yaa (l:List ByteArray) (g:ByteArray):tot (l++[g])=tot l+g.size:=by simp[tot]
theorem Xvy:∀{l:List ByteArray} {m:Nat},(∀g∈l,g.size≤m)→tot l≤l.length*m
 |[],_,_=>by simp[tot]
 |x::l,m,h=>by
  have h1:=h x (List.mem_cons_self ..)
  have h2:=Xvy (l:=l) (fun g hg=>h g (List.mem_cons_of_mem _ hg))
  show x.size+tot l≤(l.length+1)*m
  rw[Nat.add_mul];omega
theorem Yec {l:List ByteArray} {g:ByteArray} (h:g∈l):g.size≤tot l:=by
 induction l with
 |nil=>cases h
 |cons x l ih=>
  show g.size≤x.size+tot l
  rcases List.mem_cons.1 h with rfl|h
  ·omega
  ·have:=ih h;omega
structure FitsP (c:Cn):Prop where
 gl:c.groups.length≤30
 gt:tot c.groups≤3000
 rl:c.refs.length≤30
 tx:c.name.size+c.subject.size+c.ctl.size+c.dist.size≤2000
 body:c.body.size≤2000
theorem Ybz (c:Cn):FitsP c↔c.groups.length≤30∧tot c.groups≤3000∧c.refs.length≤30∧c.name.size+c.subject.size+c.ctl.size+c.dist.size≤2000∧c.body.size≤2000:=
 ⟨fun h=>⟨h.gl,h.gt,h.rl,h.tx,h.body⟩,fun⟨h1,h2,h3,h4,h5⟩=>⟨h1,h2,h3,h4,h5⟩⟩
theorem FitsP.inn {w:World} {c:Cn} {gv rv:Value} (h:FitsP c) (ha:CnArg w c gv rv):CnIn w c gv rv:=
 ⟨ha.ok,by have:=h.tx;omega,by have:=h.tx;omega,by have:=h.tx;omega,by have:=h.tx;omega,by have:=h.body;omega,by have:=h.gl;omega,fun g hg=>by have:=Yec hg;have:=h.gt;omega,by have:=h.rl;omega,ha.srow,ha.irow⟩
def Ykb (c:Cn) (w:World) (e:Ending) (w':World):Prop:=(∃b,e=.returned (.bool b)∧(b=true↔FitsP c))∧Below w.heap.size w w'
set_option maxHeartbeats 2000000 in
theorem Xxf (w:World) (c:Cn) (gv rv:Value) (ha:CnArg w c gv rv):
    Calls Tryz.prog 8 #[.agg (c.cells gv rv)] w (Ykb c w):=by
 obtain⟨w0,hw0⟩:∃w0,w0=w.alloc (.cells (c.cells gv rv) 28):=⟨_,rfl⟩
 have B0:Hid (Below w.heap.size w w0):=Hd (by rw[hw0];exact(Below.refl _ _).alloc (Nat.le_refl _) _)
 have CX:CB w0 w.heap.size c gv rv 28:=by unfold CB;rw[hw0];exact heap_alloc_last w _
 have SR:=ha.srow.below B0.out
 have IR:=ha.irow.below B0.out
 have OK:=Hd ha.ok;have HA:=Hd ha
 obtain⟨xa,xc,rfl,hxc,rx⟩:=SR
 obtain⟨ya,yc,rfl,hyc,ry⟩:=IR
 obtain⟨n,hn⟩:∃n,n=c.groups.length:=⟨_,rfl⟩
 obtain⟨m,hm⟩:∃m,m=c.refs.length:=⟨_,rfl⟩
 have c0:=CX.at (Xe6 c (.slice xa c.groups.length xc) (.slice ya c.refs.length yc))
 have c18:=CX.at (Xgv OK.out (.slice xa c.groups.length xc) (.slice ya c.refs.length yc))
 have c19:=CX.at (Xct OK.out (.slice xa c.groups.length xc) (.slice ya c.refs.length yc))
 have c20:=CX.at (Xhz OK.out (.slice xa c.groups.length xc) (.slice ya c.refs.length yc))
 have c53:=CX.at (Xc8 OK.out (.slice xa c.groups.length xc) (.slice ya c.refs.length yc))
 have c54:=CX.at (Xdn OK.out (.slice xa c.groups.length xc) (.slice ya c.refs.length yc))
 have c74:=CX.at (Xgu OK.out (.slice xa c.groups.length xc) (.slice ya c.refs.length yc))
 rw[←hn] at c18
 rw[←hm] at c20
 have HN:=Hd hn;have HM:=Hd hm;have RX:=Hd rx
 have hn2:n≤140737488355328:=by rw[hn];exact ha.gl
 have hm2:m≤140737488355328:=by rw[hm];exact ha.rl
 have z1:c.name.size≤140737488355328:=ha.name
 have z2:c.subject.size≤140737488355328:=ha.subject
 have z3:c.ctl.size≤140737488355328:=ha.ctl
 have z4:c.dist.size≤140737488355328:=ha.dist
 have z5:c.body.size≤140737488355328:=ha.body
 have FI:=Hd (Ybz c)
 obtain⟨cs,hcs⟩:∃cs,cs=c.cells (.slice xa c.groups.length xc) (.slice ya c.refs.length yc):=⟨_,rfl⟩
 rw[←hcs] at hw0⊢
 have HW:=Hd hw0
 clear hw0 hcs ha CX hn hm rx ry hxc hyc
 go_enter Tryz.func8,Tryz.ntmps8
 go_upto_region 1 with fail
 rw[←HW.out]
 clear HW
 go_wp2_with fail
 go_loopg [3,4] n (fun k s i wr=>∃(j:Nat) (q:Int),j≤n∧k=n-j∧i=.int .i64 (j:Int)∧s=.int .i64 q∧Hid (n≤30→q=(tot (c.groups.take j):Nat))∧w0=wr)
 case atStart=>exact⟨0,0,by omega,rfl,rfl,rfl,Hd (fun _=>rfl),rfl⟩
 case round=>
  obtain⟨j,q,hj,rfl,rfl,rfl,hq,rfl⟩:=hrel
  by_cases hlt:j<n
  ·have hl:j<c.groups.length:=by rw[←HN.out];exact hlt
   obtain⟨b,off,rfl,_,hcell⟩:=RX.out (fun e=>by rw[e] at hl;simp at hl)
   obtain⟨g,hg⟩:∃g,g=c.groups[j]:=⟨_,rfl⟩
   have k1:w0.cell? ⟨b,off+j,none⟩=some (.string g):=by rw[hg];exact hcell j hl
   have zg:g.size≤140737488355328:=by rw[hg];exact HA.out.gz _ (List.getElem_mem hl)
   obtain⟨q2,hq2⟩:∃q2,q2=IntKind.i64.wrap (q+(g.size:Int)):=⟨_,rfl⟩
   have Q2:Hid (n≤30→q2=(tot (c.groups.take (j+1)):Nat)):=Hd (fun h30=>by
    have e:=hq.out h30
    have tl:=Xvy (l:=c.groups.take j) (m:=140737488355328) (fun x hx=>HA.out.gz x (List.mem_of_mem_take hx))
    rw[List.length_take] at tl
    rw[hq2,e,List.take_succ_eq_append_getElem hl,Yaa,←hg]
    have:min j c.groups.length≤30:=by rw[←HN.out];omega
    have tl2:tot (c.groups.take j)≤30*140737488355328:=Nat.le_trans tl (Nat.mul_le_mul_right _ this)
    rw[IntWalk.i64_in _ (by omega)]
    omega)
   have wq:=hq2.symm
   clear hcell hg hq hq2 hl
   go_wp2_with fail
   go_roundg (n-(j+1))
   case measure=>omega
   case rel=>exact⟨j+1,q2,by omega,rfl,by go_num,rfl,Q2,rfl⟩
  ·obtain rfl:j=n:=by omega
   have TK:Hid (j≤30→q=(tot c.groups:Nat)):=Hd (fun h30=>by rw[hq.out h30,List.take_of_length_le (by rw[HN.out];exact Nat.le_refl _)])
   clear hq hlt
   by_cases h1:j≤30
   ·have q1:=TK.out h1
    obtain⟨t,ht⟩:∃t,t=tot c.groups:=⟨_,rfl⟩
    rw[←ht] at q1
    subst q1
    have HT:=Hd ht
    clear ht TK
    by_cases h2:t≤3000
    ·by_cases h3:m≤30
     ·by_cases h4:c.name.size+c.subject.size+c.ctl.size+c.dist.size≤2000
      ·by_cases h5:c.body.size≤2000
       ·have F:Hid (FitsP c):=Hd (FI.out.2 ⟨by rw[←HN.out];exact h1,by rw[←HT.out];exact h2,by rw[←HM.out];exact h3,h4,h5⟩)
        have d5:decide ((c.body.size:Int)≤2000)=true:=decide_eq_true (by omega)
        go_wp2_with fail
        go_ret
        exact⟨⟨true,rfl,⟨fun _=>F.out,fun _=>rfl⟩⟩,B0.out⟩
       ·have F:Hid (¬FitsP c):=Hd (fun h=>h5 h.body)
        have d5:decide ((c.body.size:Int)≤2000)=false:=decide_eq_false (by omega)
        go_wp2_with fail
        go_ret
        exact⟨⟨false,rfl,⟨fun h=>(by cases h),fun h=>absurd h F.out⟩⟩,B0.out⟩
      ·have F:Hid (¬FitsP c):=Hd (fun h=>h4 h.tx)
       have h4':¬((c.name.size:Int)+(c.subject.size:Int)+(c.ctl.size:Int)+(c.dist.size:Int)≤2000):=by omega
       go_wp2_with fail
       go_ret
       exact⟨⟨false,rfl,⟨fun h=>(by cases h),fun h=>absurd h F.out⟩⟩,B0.out⟩
     ·have F:Hid (¬FitsP c):=Hd (fun h=>h3 (by rw[HM.out];exact h.rl))
      go_wp2_with fail
      go_ret
      exact⟨⟨false,rfl,⟨fun h=>(by cases h),fun h=>absurd h F.out⟩⟩,B0.out⟩
    ·have F:Hid (¬FitsP c):=Hd (fun h=>h2 (by rw[HT.out];exact h.gt))
     go_wp2_with fail
     go_ret
     exact⟨⟨false,rfl,⟨fun h=>(by cases h),fun h=>absurd h F.out⟩⟩,B0.out⟩
   ·have F:Hid (¬FitsP c):=Hd (fun h=>h1 (by rw[HN.out];exact h.gl))
    clear TK
    go_wp2_with fail
    go_ret
    exact⟨⟨false,rfl,⟨fun h=>(by cases h),fun h=>absurd h F.out⟩⟩,B0.out⟩
end Go.Proofs.YtohmdledkhgdaaaGreatDoor
/- What a card's proof asks of a content that came in: its cells, its lists, its sizes. -/
namespace Go.Proofs.YtohmdledkhgdaaaGreatDoor
open Go.ChangeShapes Go.WideShapes Go.ChangeAt Go.RowKit
open Go.ChangeMaps (open_string shut_string)
set_option linter.unusedVariables false
set_option maxRecDepth 100000
theorem own:ownKnob Tryz.prog.godebug=none:=by kernel_rfl
theorem Yfc:laidOutB Tryz.prog=true:=by kernel_rfl
theorem Yja:Tryz.prog.cellsOf 28=75:=by kernel_rfl
theorem Xsi:Tryz.prog.cellsOf 26=32:=by kernel_rfl
theorem Xsj:Tryz.prog.cellsOf 22=16:=by kernel_rfl
theorem Yhg:Tryz.prog.cellsOf 5=1:=by kernel_rfl
theorem Ya7:Tryz.prog.cellsOf 3=1:=by kernel_rfl
theorem Xt9:Tryz.prog.cellsOf 9=1:=by kernel_rfl
theorem Yhh:Tryz.prog.cellsOf 23=1:=by kernel_rfl
theorem Yhi:Tryz.prog.cellsOf 24=1:=by kernel_rfl
theorem Ya8 {w:World} {r:Reach} {base:Nat} {v:Value} (h:Value.okWide Tryz.prog w r base 28 v):∃cs,v=.agg cs:=by
 simp only[Value.okWide,Tryz.underlying28] at h
 obtain⟨cs,h1,_⟩:=h
 exact⟨cs,h1⟩
theorem Xfe {H:Type} {P:Program} {e:TypeId}:∀{ds:List (DataW H)} {d:DataW H},d∈ds→∀n∈d.weights P e,n∈DataW.weightsAll P e ds
 |d0::ds,d,hd,n,hn=>by
  simp only[DataW.weightsAll,List.mem_append]
  rcases List.mem_cons.1 hd with rfl|hd
  ·exact .inl hn
  ·exact .inr (Xfe hd n hn)
theorem Xho {H:Type} {P:Program} {t e:TypeId} (hu:P.underlying t=some (.slice e)) {el sp:List (DataW H)} {d:DataW H} (hd:d∈el):∀n∈d.weights P e,n∈(DataW.slice el sp).weights P t:=by
 intro n hn
 simp only[DataW.weights,hu,List.mem_cons,List.mem_append]
 exact .inr (.inl (Xfe hd n hn))
section
variable {H:Type} {enc:TypeId×Value→H} {w:World} {base:Nat} {spare:Nat→Bool} {held:Bool} {fuel:Nat} {cs:List Value} {x:DataW H×List MemPlace}
theorem Xg3 {t:TypeId} {n:Nat} (ht:Tryz.prog.underlying t=some (.array n 5)) (hc:Tryz.prog.cellsOf t=n) (h:DataW.trod enc Tryz.prog w base spare held fuel t cs=some x):∃l:List Nat,l.length=n∧(∀x∈l,x<256)∧cs=l.map U:=by
 obtain⟨xs,m,_,_,hlen,hxl,hi⟩:=DataW.trod_array ht h
 rw[hc] at hlen
 have each:∀i (hi':i<cs.length),∃n:Nat,n<256∧cs[i]=U n:=by
  intro i hi'
  have h1:=hi i (by omega)
  rw[Yhg,Nat.mul_one,List.drop_eq_getElem_cons hi',List.getElem?_eq_getElem (by omega)] at h1
  obtain⟨n,hn,_,hw⟩:=DataW.trod_int Tryz.underlying5 h1
  simp only[List.take_succ_cons,List.take_zero,List.cons.injEq,and_true] at hn
  have hb:0≤n∧n≤255:=by
   simp[Lit.wf,IntKind.min,IntKind.max,IntKind.signed,IntKind.bits] at hw
   omega
  exact⟨n.toNat,by omega,by rw[hn,U];congr 1;omega⟩
 have key:∀cs:List Value,(∀i (hi':i<cs.length),∃n:Nat,n<256∧cs[i]=U n)→∃l:List Nat,(∀x∈l,x<256)∧cs=l.map U:=by
  intro cs
  induction cs with
  |nil=>exact fun _=>⟨[],by simp,rfl⟩
  |cons c cs ih=>
   intro h
   obtain⟨l,hl,e⟩:=ih (fun i hi'=>by have:=h (i+1) (by simpa using hi');rw[List.getElem_cons_succ] at this;exact this)
   obtain⟨n,hn,e'⟩:=h 0 (by simp)
   simp only[List.getElem_cons_zero] at e'
   exact⟨n::l,by simpa using⟨hn,hl⟩,by rw[e',e];rfl⟩
 obtain⟨l,hl,e⟩:=key cs each
 exact⟨l,by rw[e,List.length_map] at hlen;exact hlen,hl,e⟩
theorem Ya6 (h:DataW.trod enc Tryz.prog w base spare held fuel 23 cs=some x) (hw:∀n∈x.1.weights Tryz.prog 23,n≤reachBytes):
    ∃v gs,cs=[v]∧SRow w v gs∧gs.length≤Xes∧∀g∈gs,g.size≤Xes:=by
 rcases Go.Deep.open_slice1 Tryz.underlying23 Xt9 h with⟨rfl,_⟩|⟨a,len,cap,m,n,V,D,Pl,rfl,hb,hl,hm,hmm,rfl,hx⟩
 ·exact⟨_,[],rfl,⟨none,0,rfl,Nat.le_refl _,fun h=>absurd rfl h⟩,by simp,fun _ h=>by cases h⟩
 have hlm:len≤m:=by rw[hmm];split<;>omega
 have each:∀i,i<len→∃g:ByteArray,w.cell? (a.add i)=some (.string g)∧g.size≤Xes:=by
  intro i hi
  obtain⟨h1,h2⟩:=hx i (by omega)
  obtain⟨t,e3,ex3,_⟩:=DataW.trod_string Tryz.underlying9 h2
  simp only[List.cons.injEq,and_true] at e3
  refine⟨t,by rw[h1,e3],?_⟩
  have:=hw t.data.toList.length (Xho Tryz.underlying23 (List.mem_map.2 ⟨i,List.mem_range.2 hi,rfl⟩) _ (by
   have:D i=.lit (.string t.data.toList):=by injection ex3
   rw[this]
   simp[DataW.weights]))
  have e:t.data.toList.length=t.size:=rfl
  rw[e] at this
  unfold reachBytes at this
  unfold Xes
  omega
 obtain⟨y,hy⟩:=Go.Deep.choose_lt each
 have hlen:len≤Xes:=by
  have:=hw _ (by simp only[DataW.weights,Tryz.underlying23];exact List.mem_cons_self ..)
  rw[show Tryz.prog.bytesOf 9=16 by kernel_rfl] at this
  simp at this
  unfold reachBytes at this
  unfold Xes
  omega
 refine⟨_,(List.range len).map y,rfl,⟨some a,cap,by simp,by simpa using hl,fun hne=>?_⟩,by simpa using hlen,fun g hg=>?_⟩
 ·have h0:0<len:=by
     rcases Nat.eq_zero_or_pos len with h|h
     ·subst h;exact absurd rfl hne
     ·exact h
  obtain⟨b,off,spot⟩:=a
  have hc0:=(hy 0 h0).1
  have hspot:spot=none:=by simpa [Addr.add] using World.cell?_spot hc0
  subst hspot
  refine⟨b,off,rfl,by simpa [Addr.add] using World.block_lt_of_cell? w _ hc0,fun i hi=>?_⟩
  simp at hi
  have:=(hy i hi).1
  have hadd:(⟨b,off,none⟩:Addr).add i=⟨b,off+i,none⟩:=by unfold Addr.add;split<;>simp_all
  rw[hadd] at this
  rw[this];simp
 ·obtain⟨i,hi',rfl⟩:=List.mem_map.1 hg
  exact(hy i (List.mem_range.1 hi')).2
theorem Yeu (h:DataW.trod enc Tryz.prog w base spare held fuel 24 cs=some x) (hw:∀n∈x.1.weights Tryz.prog 24,n≤reachBytes):
    ∃v ids,cs=[v]∧IRow w v ids∧ids.length≤Xes∧∀l∈ids,IdOk l:=by
 rcases Go.Deep.open_slice Tryz.underlying24 h with⟨rfl,_⟩|⟨a,len,cap,m,n,D,Pl,rfl,hb,hl,hm,hmm,rfl,hx⟩
 ·exact⟨_,[],rfl,⟨none,0,rfl,Nat.le_refl _,fun h=>absurd rfl h⟩,by simp,fun _ h=>by cases h⟩
 have hlm:len≤m:=by rw[hmm];split<;>omega
 have each:∀i,i<len→∃l:List Nat,IdOk l∧∀k u,(idA l)[k]?=some u→w.cell? (a.add (i*32+k))=some u:=by
  intro i hi
  obtain⟨cs',h1,h2⟩:=hx i (by omega)
  rw[Xsi] at h1
  obtain⟨l,hl1,hl2,rfl⟩:=Xg3 Tryz.underlying26 Xsi h2
  refine⟨l,⟨hl1,hl2⟩,fun k u hu=>?_⟩
  obtain⟨_,hcl,hat⟩:=World.cells?_some h1
  have hk:k<32:=by
   have:=(Array.getElem?_eq_some_iff.1 hu).1
   rw[Xag,hl1] at this
   exact this
  have:=hat k hk
  have hadd:(a.add (i*32)).add k=a.add (i*32+k):=by
   unfold Addr.add
   split<;>split<;>simp_all<;>omega
  rw[hadd] at this
  rw[this]
  simpa [idA] using hu
 obtain⟨y,hy⟩:=Go.Deep.choose_lt each
 have hlen:len≤Xes:=by
  have:=hw _ (by simp only[DataW.weights,Tryz.underlying24];exact List.mem_cons_self ..)
  rw[show Tryz.prog.bytesOf 26=32 by kernel_rfl] at this
  simp at this
  unfold reachBytes at this
  unfold Xes
  omega
 refine⟨_,(List.range len).map y,rfl,⟨some a,cap,by simp,by simpa using hl,fun hne=>?_⟩,by simpa using hlen,fun l hg=>?_⟩
 ·have h0:0<len:=by
     rcases Nat.eq_zero_or_pos len with h|h
     ·subst h;exact absurd rfl hne
     ·exact h
  obtain⟨b,off,spot⟩:=a
  have hl0:=(hy 0 h0).1
  have hc0:=(hy 0 h0).2 0 ((idA (y 0))[0]'(by rw[Xag,hl0.len];decide)) (Array.getElem?_eq_getElem _)
  have hspot:spot=none:=by simpa [Addr.add] using World.cell?_spot hc0
  subst hspot
  refine⟨b,off,rfl,by simpa [Addr.add] using World.block_lt_of_cell? w _ hc0,fun i hi k u hu=>?_⟩
  simp at hi
  simp at hu
  have:=(hy i hi).2 k u hu
  have hadd:(⟨b,off,none⟩:Addr).add (i*32+k)=⟨b,off+i*32+k,none⟩:=by unfold Addr.add;split<;>simp_all<;>omega
  rw[hadd] at this
  exact this
 ·obtain⟨i,hi',rfl⟩:=List.mem_map.1 hg
  exact(hy i (List.mem_range.1 hi')).1
theorem Xjs (h:DataW.trod enc Tryz.prog w base spare held fuel 9 cs=some x) (hw:∀n∈x.1.weights Tryz.prog 9,n≤reachBytes):∃s:ByteArray,cs=[.string s]∧s.size≤Xes:=by
 obtain⟨t,e3,ex3,_⟩:=DataW.trod_string Tryz.underlying9 h
 refine⟨t,e3,?_⟩
 have:=hw t.data.toList.length (by rw[ex3];simp[DataW.weights])
 have e:t.data.toList.length=t.size:=rfl
 rw[e] at this
 unfold reachBytes at this
 unfold Xes
 omega
theorem Xp8 (h:DataW.trod enc Tryz.prog w base spare held fuel 28 cs=some x) (hw:∀n∈x.1.weights Tryz.prog 28,n≤reachBytes):
    ∃(c:Cn) (gv rv:Value),cs=(c.cells gv rv).toList∧CnArg w c gv rv:=by
 obtain⟨xs,m,_,hx,hlen,hxl,hf⟩:=DataW.trod_struct Tryz.underlying28 h
 rw[Yja] at hlen
 have hl14:xs.length=14:=hxl
 have W:∀(j:Nat) (t:TypeId) (hj:j<xs.length),((Tryz.prog.underlying 28).bind fun u=>match u with|.struct fs=>(fs.toList.map (·.type))[j]?|_=>none)=some t→∀n∈(xs[j]'hj).1.weights Tryz.prog t,n≤reachBytes:=by
  intro j t hj ht n hn
  refine hw n ?_
  rw[hx]
  simp only[DataW.weights,Tryz.underlying28]
  rw[Tryz.underlying28] at ht
  exact DataW.weights_mem_each (j:=j) ht (by rw[List.getElem?_map,List.getElem?_eq_getElem hj];rfl) n hn
 have f0:DataW.trod enc Tryz.prog w base spare held m 9 ((cs.drop 0).take (Tryz.prog.cellsOf 9))=xs[0]?:=hf 0 _ rfl
 have f1:DataW.trod enc Tryz.prog w base spare held m 22 ((cs.drop 1).take (Tryz.prog.cellsOf 22))=xs[1]?:=hf 1 _ rfl
 have f2:DataW.trod enc Tryz.prog w base spare held m 3 ((cs.drop 17).take (Tryz.prog.cellsOf 3))=xs[2]?:=hf 2 _ rfl
 have f3:DataW.trod enc Tryz.prog w base spare held m 23 ((cs.drop 18).take (Tryz.prog.cellsOf 23))=xs[3]?:=hf 3 _ rfl
 have f4:DataW.trod enc Tryz.prog w base spare held m 9 ((cs.drop 19).take (Tryz.prog.cellsOf 9))=xs[4]?:=hf 4 _ rfl
 have f5:DataW.trod enc Tryz.prog w base spare held m 24 ((cs.drop 20).take (Tryz.prog.cellsOf 24))=xs[5]?:=hf 5 _ rfl
 have f6:DataW.trod enc Tryz.prog w base spare held m 26 ((cs.drop 21).take (Tryz.prog.cellsOf 26))=xs[6]?:=hf 6 _ rfl
 have f7:DataW.trod enc Tryz.prog w base spare held m 9 ((cs.drop 53).take (Tryz.prog.cellsOf 9))=xs[7]?:=hf 7 _ rfl
 have f8:DataW.trod enc Tryz.prog w base spare held m 9 ((cs.drop 54).take (Tryz.prog.cellsOf 9))=xs[8]?:=hf 8 _ rfl
 have f9:DataW.trod enc Tryz.prog w base spare held m 3 ((cs.drop 55).take (Tryz.prog.cellsOf 3))=xs[9]?:=hf 9 _ rfl
 have f10:DataW.trod enc Tryz.prog w base spare held m 3 ((cs.drop 56).take (Tryz.prog.cellsOf 3))=xs[10]?:=hf 10 _ rfl
 have f11:DataW.trod enc Tryz.prog w base spare held m 22 ((cs.drop 57).take (Tryz.prog.cellsOf 22))=xs[11]?:=hf 11 _ rfl
 have f12:DataW.trod enc Tryz.prog w base spare held m 3 ((cs.drop 73).take (Tryz.prog.cellsOf 3))=xs[12]?:=hf 12 _ rfl
 have f13:DataW.trod enc Tryz.prog w base spare held m 9 ((cs.drop 74).take (Tryz.prog.cellsOf 9))=xs[13]?:=hf 13 _ rfl
 have g (j:Nat) (hj:j<14):xs[j]?=some (xs[j]'(by omega)):=List.getElem?_eq_getElem _
 rw[g 0 (by decide),Xt9] at f0
 rw[g 1 (by decide),Xsj] at f1
 rw[g 2 (by decide),Ya7] at f2
 rw[g 3 (by decide),Yhh] at f3
 rw[g 4 (by decide),Xt9] at f4
 rw[g 5 (by decide),Yhi] at f5
 rw[g 6 (by decide),Xsi] at f6
 rw[g 7 (by decide),Xt9] at f7
 rw[g 8 (by decide),Xt9] at f8
 rw[g 9 (by decide),Ya7] at f9
 rw[g 10 (by decide),Ya7] at f10
 rw[g 11 (by decide),Xsj] at f11
 rw[g 12 (by decide),Ya7] at f12
 rw[g 13 (by decide),Xt9] at f13
 obtain⟨s0,e0,z0⟩:=Xjs f0 (W 0 _ (by omega) rfl)
 obtain⟨l1,a1,b1,e1⟩:=Xg3 Tryz.underlying22 Xsj f1
 obtain⟨n2,e2,_,w2⟩:=DataW.trod_int Tryz.underlying3 f2
 obtain⟨v3,gs,e3,r3,z3,y3⟩:=Ya6 f3 (W 3 _ (by omega) rfl)
 obtain⟨s4,e4,z4⟩:=Xjs f4 (W 4 _ (by omega) rfl)
 obtain⟨v5,ids,e5,r5,z5,y5⟩:=Yeu f5 (W 5 _ (by omega) rfl)
 obtain⟨l6,a6,b6,e6⟩:=Xg3 Tryz.underlying26 Xsi f6
 obtain⟨s7,e7,z7⟩:=Xjs f7 (W 7 _ (by omega) rfl)
 obtain⟨s8,e8,z8⟩:=Xjs f8 (W 8 _ (by omega) rfl)
 obtain⟨n9,e9,_,w9⟩:=DataW.trod_int Tryz.underlying3 f9
 obtain⟨n10,e10,_,w10⟩:=DataW.trod_int Tryz.underlying3 f10
 obtain⟨l11,a11,b11,e11⟩:=Xg3 Tryz.underlying22 Xsj f11
 obtain⟨n12,e12,_,w12⟩:=DataW.trod_int Tryz.underlying3 f12
 obtain⟨s13,e13,z13⟩:=Xjs f13 (W 13 _ (by omega) rfl)
 refine⟨⟨s0,l1,n2,gs,s4,ids,l6,s7,s8,n9,n10,l11,n12,s13⟩,v3,v5,?_,⟨⟨⟨a1,b1⟩,⟨a11,b11⟩,⟨a6,b6⟩,y5,w2,w9,w10,w12⟩,z0,z4,z7,z8,z13,z3,y3,z5,r3,r5⟩⟩
 have cut:∀(i k:Nat),cs.drop i=(cs.drop i).take k++cs.drop (i+k):=fun i k=>by
  have:=(List.take_append_drop k (cs.drop i)).symm
  rwa [List.drop_drop] at this
 have s:cs=cs.drop 0:=rfl
 rw[s,cut 0 1,cut 1 16,cut 17 1,cut 18 1,cut 19 1,cut 20 1,cut 21 32,cut 53 1,cut 54 1,cut 55 1,cut 56 1,cut 57 16,cut 73 1,cut 74 1,e0,e1,e2,e3,e4,e5,e6,e7,e8,e9,e10,e11,e12,e13]
 rw[show cs.drop (74+1)=[] from List.drop_of_length_le (by omega)]
 simp[Cn.cells]
end
end Go.Proofs.YtohmdledkhgdaaaGreatDoor
/- What a card's proof asks: the listed variables give what the walks read of them; a witness. -/
namespace Go.Proofs.YtohmdledkhgdaaaGreatDoor
open Go.ChangeShapes Go.WideShapes Go.ChangeAt Go.RowKit
open Go.ChangeMaps (open_string shut_string)
set_option linter.unusedVariables false
set_option maxRecDepth 100000
def laidL : List (String × DataW Unit) := [("math/bits.deBruijn32tab", Rows.laid_math_bits_deBruijn32tab), ("math/bits.deBruijn64tab", Rows.laid_math_bits_deBruijn64tab), ("internal/strconv.uint64pow10", Rows.laid_internal_strconv_uint64pow10), ("unicode/utf8.acceptRanges", Rows.laid_unicode_utf8_acceptRanges), ("bulletin/base64.alphabet", Rows.laid_bulletin_base64_alphabet), ("bulletin/sha256.constants", Rows.laid_bulletin_sha256_constants), ("bulletin/canonical.formWords", Rows.laid_bulletin_canonical_formWords), ("unicode/utf8.first", Rows.laid_unicode_utf8_first)]
theorem Yhb:(laidL.all fun x=>x.2.handleName?.isNone)=true:=by kernel_rfl
theorem Xfq {W:World} (h:laidMetH Tryz.prog laidL W):laidMet Tryz.prog laidL W:=by rwa [MakeChecks.laidMetH_plain _ _ _ Yhb] at h
theorem Yju : (laidL.filter fun x => x.1 == "bulletin/base64.alphabet") = [("bulletin/base64.alphabet", Lib.tabData .u8 (alph.map fun n : Nat => (n : Int)))] := by kernel_rfl
theorem Yjs : (laidL.filter fun x => x.1 == "internal/strconv.uint64pow10") = [("internal/strconv.uint64pow10", Lib.tabData .u64 Lib.pow10Tab)] := by kernel_rfl
theorem Yjt : (laidL.filter fun x => x.1 == "bulletin/sha256.constants") = [("bulletin/sha256.constants", Lib.tabData .u32 ((List.range 64).map fun c => ((shK.getD c 0 : Nat) : Int)))] := by kernel_rfl
theorem Yjr : (laidL.filter fun x => x.1 == "bulletin/canonical.formWords") = [("bulletin/canonical.formWords", .agg (fWords.map fun l => .lit (.string (l.map UInt8.ofNat))))] := by kernel_rfl
theorem Yj8 : Tryz.prog.globalNamed "bulletin/base64.alphabet" = some 3 := by kernel_rfl
theorem Yke : Tryz.prog.globalNamed "internal/strconv.uint64pow10" = some 4 := by kernel_rfl
theorem Yj9 : Tryz.prog.globalNamed "bulletin/sha256.constants" = some 1 := by kernel_rfl
theorem gFw : Tryz.prog.globalNamed "bulletin/canonical.formWords" = some 0 := by kernel_rfl
theorem Yg0 {W:World} (h:laidMet Tryz.prog laidL W):Tab W:=by
 have h1 := h.filter (fun x => x.1 == "bulletin/base64.alphabet")
 rw[Yju] at h1
 have ht : Lib.TabIs Tryz.prog W "bulletin/base64.alphabet" .u8 (alph.map fun n : Nat => (n : Int)) := Lib.tabIs_of_head (rest := []) Yj8 (show (Tryz.prog.globals[3]?).map (·.type) = some 177 by kernel_rfl) Tryz.underlying177 Tryz.underlying5 (by kernel_rfl) (by kernel_rfl) h1
 have hc:∀g,g<64→W.cell? ⟨3,g,none⟩=some (U (al g)):=fun g hg=>by
  have:=ht.cell Yj8 g (by simp[alph];omega)
  rw[this]
  have hl:g<alph.length:=by simp[alph];omega
  simp[U,al,List.getD,List.getElem?_eq_getElem hl]
 exact⟨World.block_lt_of_cell? W _ (hc 0 (by omega)),hc⟩
theorem Yha {W : World} (h : laidMet Tryz.prog laidL W) : Lib.TabIs Tryz.prog W "internal/strconv.uint64pow10" .u64 Lib.pow10Tab := by
  have h1 := h.filter (fun x => x.1 == "internal/strconv.uint64pow10")
  rw[Yjs] at h1
  exact Lib.tabIs_of_head (rest:=[]) Yke (show(Tryz.prog.globals[4]?).map (·.type)=some 276 by kernel_rfl) Tryz.underlying276 Tryz.underlying122 (by kernel_rfl) (by kernel_rfl) h1
theorem Yg3 {W:World} (h:laidMet Tryz.prog laidL W):∀i,i<64→W.cell? ⟨1,i,none⟩=some (.int .u32 ((shK.getD i 0:Nat):Int)):=by
 have h1 := h.filter (fun x => x.1 == "bulletin/sha256.constants")
 rw[Yjt] at h1
 have ht : Lib.TabIs Tryz.prog W "bulletin/sha256.constants" .u32 ((List.range 64).map fun c => ((shK.getD c 0 : Nat) : Int)) := Lib.tabIs_of_head (rest := []) Yj9 (show (Tryz.prog.globals[1]?).map (·.type) = some 170 by kernel_rfl) Tryz.underlying170 Tryz.underlying127 (by kernel_rfl) (by kernel_rfl) h1
 intro c hc
 have:=ht.cell Yj9 c (by simp;omega)
 rw[this]
 simp[List.getD,hc]
theorem Xlb {H:Type} {enc:TypeId×Value→H} {W:World} {base:Nat} {sp:Nat→Bool} {held:Bool} {fuel:Nat} {cs:List Value} {ws:List (List UInt8)} {p:List MemPlace}
    (h:DataW.trod enc Tryz.prog W base sp held fuel 101 cs=some (.agg (ws.map fun l=>.lit (.string l)),p)):cs=ws.map fun l=>.string ⟨l.toArray⟩:=by
 obtain⟨xs,m,_,hx,hlen,hxl,hi⟩:=DataW.trod_array Tryz.underlying101 h
 rw[show Tryz.prog.cellsOf 101=11 by kernel_rfl] at hlen
 simp only[Prod.mk.injEq,DataW.agg.injEq] at hx
 have hws:ws.length=11:=by
  have:=congrArg List.length hx.1
  simp at this
  omega
 refine List.ext_getElem (by simp[hlen,hws]) fun i h1 h2=>?_
 have h3:=hi i (by omega)
 rw[show Tryz.prog.cellsOf 9=1 by kernel_rfl,Nat.mul_one,List.drop_eq_getElem_cons h1,List.getElem?_eq_getElem (by omega)] at h3
 obtain⟨t,e3,ex3,_⟩:=DataW.trod_string Tryz.underlying9 h3
 simp only[List.take_succ_cons,List.take_zero,List.cons.injEq,and_true] at e3
 have h4:(ws.map fun l=>(DataW.lit (.string l):DataW H))[i]?=(xs.map (·.1))[i]?:=by rw[hx.1]
 rw[List.getElem?_map,List.getElem?_map,List.getElem?_eq_getElem (by omega),List.getElem?_eq_getElem (by omega)] at h4
 simp only[Option.map_some,Option.some.injEq] at h4
 rw[ex3] at h4
 simp only[DataW.lit.injEq,Lit.string.injEq] at h4
 rw[e3,List.getElem_map,h4]
theorem Xzx:∀i,i<11→((fWords.map fun l=>(l.map UInt8.ofNat:List UInt8)).map fun l=>(Value.string ⟨l.toArray⟩))[i]?=some (.string (Xaq (fWords.getD i []))):=by
 intro i hi
 rcases(by omega:i=0∨i=1∨i=2∨i=3∨i=4∨i=5∨i=6∨i=7∨i=8∨i=9∨i=10) with rfl|rfl|rfl|rfl|rfl|rfl|rfl|rfl|rfl|rfl|rfl<;>kernel_rfl
theorem Yjp {W:World} (h:laidMet Tryz.prog laidL W):∀i,i<11→W.cell? ⟨0,i,none⟩=some (.string (Xaq (fWords.getD i []))):=by
 have h1 := h.filter (fun x => x.1 == "bulletin/canonical.formWords")
 rw[Yjr] at h1
 obtain⟨ps,⟨g',t',cs,fuel,p,q,hg',ht',hvar,hd,_,_⟩,_⟩:=h1
 obtain rfl:=Option.some.inj (gFw.symm.trans hg')
 obtain rfl:=Option.some.inj ((show(Tryz.prog.globals[0]?).map (·.type)=some 101 by kernel_rfl).symm.trans ht')
 have hc:=Xlb (ws:=fWords.map fun l=>l.map UInt8.ofNat) (by rw[List.map_map];exact hd)
 intro i hi
 have:=World.var?_cell gFw hvar i
 rw[this]
 have e:=Xzx i hi
 rw[←hc] at e
 simpa using e
theorem Yjb {W:World} (h:W.ShapedOpen Tryz.prog):∃m,W.cell? ⟨2,0,none⟩=some (.int .i64 m):=
 Go.Proofs.cell_of_shapedOpen_int (zero:=#[.int .i64 0]) (t:=3) h (of_decide_eq_true (by kernel_rfl)) (by kernel_rfl) rfl (by kernel_rfl) (by kernel_rfl) Tryz.underlying3
theorem Ybn:(((begin Tryz.prog (fun _ _=>0) default).world.heap[8]?).bind Obj.row?).isSome=true:=by kernel_rfl
theorem Yee {W:World} (h:W.ShapedOpen Tryz.prog):9≤W.heap.size:=by
 obtain⟨⟨zero,t⟩,hz⟩:=Option.isSome_iff_exists.1 Ybn
 obtain⟨cs,hh,_,_⟩:=h.1 8 zero t (of_decide_eq_true (by kernel_rfl)) hz
 exact lt_of_block hh
theorem Yid {W:World} (h:laidMetH Tryz.prog laidL W) (hs:W.ShapedOpen Tryz.prog):Env W:=
 ⟨Yg0 (Xfq h),Yha (Xfq h),Yjb hs,Yg3 (Xfq h),Yjp (Xfq h),Yee hs⟩
theorem Yd0 {H:Type} {enc:TypeId×Value→H} {os:Os} {f:FuncId} {fn:Func} {s:OpenSpec} {conds:List PathCond} {apart:Bool} (args:Array Value)
    (hsh:((World.laidAll Tryz.prog os laidL).forCall (fun _ _=>0) ⟨#[],args,[]⟩).Shaped Tryz.prog)
    (hok:Input.okWideB Tryz.prog ((World.laidAll Tryz.prog os laidL).forCall (fun _ _=>0) ⟨#[],args,[]⟩) f ⟨#[],args,[]⟩=true)
    (hrow:s.preRow enc Tryz.prog fn conds apart laidL ((World.laidAll Tryz.prog os laidL).forCall (fun _ _=>0) ⟨#[],args,[]⟩).memory args):
    ∃(w:World) (tape:Tape) (i:Input),w.os=os∧(w.forCall tape i).Shaped Tryz.prog∧i.vars=[]∧Input.okWide Tryz.prog (w.forCall tape i) .any w.heap.size f i∧
     s.preRow enc Tryz.prog fn conds apart laidL (w.forCall tape i).memory i.args∧({}:Assume).holds Tryz.prog (lone (Frame.enter Tryz.prog f i.args .normal) [] (w.forCall tape i)):=
 ⟨World.laidAll Tryz.prog os laidL,fun _ _=>0,⟨#[],args,[]⟩,World.laidAll_os _ _ _,hsh,(Input.okWide_of_okWideB (base:=0) hok).1,(Input.okWide_of_okWideB hok).2,hrow,by
  simp only[Assume.holds]
  exact⟨by simp,by simp,by simp,by simp,by simp⟩⟩
theorem Ykf (os:Os):(World.holding Tryz.prog os ⟨#[],#[],[]⟩).layFits Tryz.prog laidL []=true:=by kernel_rfl
theorem Yhz (os:Os):(World.holding Tryz.prog os ⟨#[],#[],[]⟩).layIfaces Tryz.prog laidL (World.laidAll Tryz.prog os laidL)=true:=by kernel_rfl
theorem Xo6 {W:World} {base:Nat} {v:Value} {H:Type} {enc:TypeId×Value→H} {d:DataW H} {p:List MemPlace} (hv:Value.okWide Tryz.prog W .any base 28 v) (h:DataW.Trod enc Tryz.prog W 0 (fun _=>true) true 28 v d p)
    (hw:∀n∈d.weights Tryz.prog 28,n≤reachBytes):∃(c:Cn) (gv rv:Value),v=.agg (c.cells gv rv)∧CnArg W c gv rv:=by
 obtain⟨cs,rfl⟩:=Ya8 hv
 obtain⟨m,hm⟩:=h
 obtain⟨c,gv,rv,h1,h2⟩:=Xp8 hm hw
 exact⟨c,gv,rv,by rw[show cs=c.cells gv rv from Array.toList_inj.1 (by simpa [Value.cells] using h1)],h2⟩
def Xzv:Array Value:=cn0.cells (.slice none 0 0) (.slice none 0 0)
end Go.Proofs.YtohmdledkhgdaaaGreatDoor
/- ascii.Number. -/
namespace Go.Proofs.YtohmdledkhgdaaaGreatDoor
open Go.RowKit
set_option linter.unusedVariables false
set_option maxRecDepth 100000
set_option maxHeartbeats 1000000 in
theorem Xwa (s:ByteArray) (w:World) (hs:s.size≤1000000):
    Calls Tryz.prog 152 #[.string s,.int .i64 0,.func (.func 105) #[] #[]] w fun e w'=>∃k:Nat,e=.returned (.int .i64 (k:Int))∧k≤s.size∧(k<s.size↔(bs s).all dig=false)∧w=w':=by
 have LEN:=Hd (Xaa s)
 go_enter Tryz.func152,Tryz.ntmps152
 go_wp2_with fail
 go_loopg [1] s.size (fun k i wr=>∃j:Nat,j≤s.size∧k=s.size-j∧i=.int .i64 (j:Int)∧Hid (∀q,q<j→dig ((bs s).getD q 0)=true)∧w=wr)
 case atStart=>exact⟨0,by omega,rfl,rfl,Hd (fun q hq=>by omega),rfl⟩
 case round=>
  obtain⟨j,hj,rfl,rfl,hg,rfl⟩:=hrel
  by_cases hlt:j<s.size
  ·obtain⟨c,hc⟩:∃c,c=(bs s).getD j 0:=⟨_,rfl⟩
   have hc2:c<256:=by rw[hc];exact Xa8 s j
   have xn:∀w,(Instr.index 9 (.string s) (.int .i64 (j:Int))).run Tryz.prog w=.ok (.int .u8 (c:Int)) w:=fun w=>by rw[Xa7 9 Tryz.underlying9 s .i64 j j rfl hlt,hc]
   have U:=Hd (fun w=>Xj7 w c hc2)
   have d1:decide ((j:Int)<(s.size:Int))=true:=by simpa using hlt
   have G2:Hid (dig c=true→∀q,q<j+1→dig ((bs s).getD q 0)=true):=Hd (fun h q hq=>by
    by_cases e:q=j
    ·rw[e,←hc];exact h
    ·exact hg.out q (by omega))
   have BAD:Hid (dig c=false→(bs s).all dig=false):=Hd (fun h=>by
    rw[List.all_eq_false]
    have hjl:j<(bs s).length:=by rw[LEN.out];exact hlt
    refine⟨(bs s)[j],List.getElem_mem hjl,?_⟩
    have e:c=(bs s)[j]:=by rw[hc];simp[List.getD,hjl]
    rw[←e,h];simp)
   obtain⟨b,hb⟩:∃b,b=dig c:=⟨_,rfl⟩
   rw[←hb] at U G2 BAD
   clear hc hb hg
   cases b
   ·have B:=BAD.out rfl
    have HB:=Hd B
    clear B G2 BAD
    go_wp2_with (go_at_call 105;refine(U.out _).mono ?_;rintro e w' ⟨rfl,rfl⟩)
    go_ret
    exact⟨j,rfl,hj,⟨fun _=>HB.out,fun _=>hlt⟩,rfl⟩
   ·have G3:=Hd (G2.out rfl)
    clear G2 BAD
    go_wp2_with (go_at_call 105;refine(U.out _).mono ?_;rintro e w' ⟨rfl,rfl⟩)
    go_roundg (s.size-(j+1))
    case measure=>omega
    case rel=>exact⟨j+1,by omega,rfl,by go_num,G3,rfl⟩
  ·obtain rfl:j=s.size:=by omega
   have ALL:Hid ((bs s).all dig=true):=Hd (by
    rw[List.all_eq_true]
    intro x hx
    obtain⟨q,hq,rfl⟩:=List.mem_iff_getElem.1 hx
    have:=hg.out q (by rw[←LEN.out];exact hq)
    simpa [List.getD,hq] using this)
   have d1:decide ((s.size:Int)<(s.size:Int))=false:=by simp
   clear hg
   go_wp2_with fail
   go_ret
   exact⟨s.size,rfl,Nat.le_refl _,⟨fun h=>absurd h (by omega),fun h=>by rw[ALL.out] at h;cases h⟩,rfl⟩
theorem Ygw (b:List Nat):∀(n:Nat),n≤b.foldl (fun n c=>10*n+(c-48)) n:=by
 induction b with
 |nil=>intro n;exact Nat.le_refl _
 |cons x b ih=>intro n;rw[List.foldl_cons];exact Nat.le_trans (by omega) (ih _)
theorem Xro (l:List Nat) (k:Nat):Xij (l.take k)≤Xij l:=by
 conv=>rhs;rw[←List.take_append_drop k l]
 unfold Xij
 rw[List.foldl_append]
 exact Ygw _ _
theorem Xrp {l:List Nat} {k c:Nat} (hk:k<l.length) (hc:c=l.getD k 0):Xij (l.take (k+1))=10*Xij (l.take k)+(c-48):=by
 rw[List.take_succ_eq_append_getElem hk]
 unfold Xij
 rw[List.foldl_append]
 simp[hc,List.getD,hk]
def Xnj (most:Nat) (l:List Nat):Nat×Nat:=
 if l=[]∨l.all dig=false∨(1<l.length∧l.getD 0 0=48) then(0,3) else if Xij l≤most then(Xij l,0) else(0,2)
set_option maxHeartbeats 4000000 in
theorem Xi5 (s:ByteArray) (most:Nat) (w:World) (hs:s.size≤1000000) (hm:most≤1000000000):
    Calls Tryz.prog 112 #[.string s,.int .i64 (most:Int)] w fun e w'=>e=.returned (.tuple #[.int .i64 ((Xnj most (bs s)).1:Int),.int .i64 ((Xnj most (bs s)).2:Int)])∧w=w':=by
 have LEN:=Hd (Xaa s)
 have SK:=Hd (fun w=>Xwa s w hs)
 obtain⟨R,hR⟩:∃R,R=Xnj most (bs s):=⟨_,rfl⟩
 rw[←hR]
 have RD:Hid (R=if s.size=0∨(bs s).all dig=false∨(1<s.size∧(bs s).getD 0 0=48) then(0,3) else if Xij (bs s)≤most then(Xij (bs s),0) else(0,2)):=Hd (by
  rw[hR];unfold Xnj
  rw[LEN.out]
  by_cases h:s.size=0
  ·rw[if_pos (.inl (by rw[←List.length_eq_zero_iff,LEN.out];exact h)),if_pos (.inl h)]
  ·have h':bs s≠[]:=fun e=>h (by rw[←LEN.out,e];rfl)
   simp only[h,h',false_or])
 clear hR
 by_cases h0:s.size=0
 ·have F:Hid (R=(0,3)):=Hd (by rw[RD.out,if_pos (.inl h0)])
  have qe:s.toList.isEmpty=true:=by
   rw[show s=⟨#[]⟩ from ByteArray.ext (Array.eq_empty_of_size_eq_zero h0),ByteArray.toList_eq];rfl
  clear h0 RD
  go_enter Tryz.func112,Tryz.ntmps112
  go_wp2_with fail
  go_ret2
  exact⟨by rw[F.out];rfl,rfl⟩
 have qe:s.toList.isEmpty=false:=Xdr h0
 obtain⟨c0,hc0⟩:∃c,c=(bs s).getD 0 0:=⟨_,rfl⟩
 have x0:∀w,(Instr.index 9 (.string s) (.int .i64 0)).run Tryz.prog w=.ok (.int .u8 (c0:Int)) w:=fun w=>by
  have:=Xa7 9 Tryz.underlying9 s .i64 0 0 rfl (by omega) (P:=Tryz.prog) (w:=w)
  rw[hc0];exact this
 by_cases hbad:(bs s).all dig=false
 ·have F:Hid (R=(0,3)):=Hd (by rw[RD.out,if_pos (.inr (.inl hbad))])
  have HBAD:=Hd hbad
  clear hbad RD hc0
  go_enter Tryz.func112,Tryz.ntmps112
  go_wp2_with fail
  refine(SK.out w).mono ?_
  rintro e w1 ⟨k,rfl,hk,hiff,rfl⟩
  have hlt:=hiff.2 HBAD.out
  have d1:decide ((k:Int)<(s.size:Int))=true:=by simpa using hlt
  clear hiff
  go_wp2_with fail
  go_ret2
  exact⟨by rw[F.out];rfl,rfl⟩
 have hall:(bs s).all dig=true:=by simpa using hbad
 have HALL:=Hd hall
 by_cases hz:1<s.size∧c0=48
 ·have F:Hid (R=(0,3)):=Hd (by rw[RD.out,if_pos (.inr (.inr ⟨hz.1,by rw[←hc0];exact hz.2⟩))])
  obtain⟨z1,rfl⟩:=hz
  clear RD hbad hall hc0
  go_enter Tryz.func112,Tryz.ntmps112
  go_wp2_with fail
  refine(SK.out w).mono ?_
  rintro e w1 ⟨k,rfl,hk,hiff,rfl⟩
  have hge:¬k<s.size:=fun h=>by have:=hiff.1 h;rw[HALL.out] at this;cases this
  have d1:decide ((k:Int)<(s.size:Int))=false:=by simpa using hge
  clear hiff
  go_wp2_with fail
  go_ret2
  exact⟨by rw[F.out];rfl,rfl⟩
 have RD2:Hid (R=if Xij (bs s)≤most then(Xij (bs s),0) else(0,2)):=Hd (by
  rw[RD.out,if_neg]
  rintro(h|h|h)
  ·exact h0 h
  ·exact hbad h
  ·exact hz ⟨h.1,by rw[hc0];exact h.2⟩)
 obtain⟨mq,hmq⟩:∃q,q=most/10:=⟨_,rfl⟩
 obtain⟨mr,hmr⟩:∃q,q=most%10:=⟨_,rfl⟩
 have t1:(most:Int)/10=(mq:Int):=by rw[hmq];rfl
 have t2:(most:Int)%10=(mr:Int):=by rw[hmr];rfl
 have t3:Int.tdiv (most:Int) 10=(mq:Int):=by rw[hmq];rfl
 have t4:Int.tmod (most:Int) 10=(mr:Int):=by rw[hmr];rfl
 have v6:IntKind.i64.wrap (mq:Int)=(mq:Int):=IntWalk.i64_in _ (by omega)
 have v7:IntKind.i64.wrap (mr:Int)=(mr:Int):=IntWalk.i64_in _ (by omega)
 have MQ:Hid (most=10*mq+mr∧mr<10):=Hd (by omega)
 have HC0:=Hd hc0
 clear RD hbad hall hc0 hmq hmr
 go_enter Tryz.func112,Tryz.ntmps112
 go_wp2_with fail
 refine(SK.out w).mono ?_
 rintro e w1 ⟨k,rfl,hk,hiff,rfl⟩
 have hge:¬k<s.size:=fun h=>by have:=hiff.1 h;rw[HALL.out] at this;cases this
 have d1:decide ((k:Int)<(s.size:Int))=false:=by simpa using hge
 clear hiff SK
 have ALLD:Hid (∀j,j<s.size→dig ((bs s).getD j 0)=true):=Hd (fun j hj=>by
  have hjl:j<(bs s).length:=by rw[LEN.out];exact hj
  have:=List.all_eq_true.1 HALL.out _ (List.getElem_mem hjl)
  simpa [List.getD,hjl] using this)
 clear HALL
 rcases(by omega:(1<s.size∧c0≠48)∨¬1<s.size) with⟨h1,hc48⟩|h1
 ·have q48:((c0:Int)==48)=false:=Xak (by omega)
  clear hz hc48
  go_upto_region 6 with fail
  go_wp2_with fail
  go_loopg [6,7,8,32] s.size (fun k vn v7 v8 vi wr=>∃j n:Nat,j≤s.size∧k=s.size-j∧vn=.int .i64 (n:Int)∧vi=.int .i64 (j:Int)∧Hid (n=Xij ((bs s).take j))∧n≤most∧w=wr)
  case atStart=>exact⟨0,0,by omega,rfl,rfl,rfl,Hd rfl,by omega,rfl⟩
  case round=>
   obtain⟨j,n,hj,rfl,rfl,rfl,hn,hnm,rfl⟩:=hrel
   by_cases hlt:j<s.size
   ·obtain⟨c,hc⟩:∃c,c=(bs s).getD j 0:=⟨_,rfl⟩
    have hd:=ALLD.out j hlt
    rw[←hc] at hd
    have hd1:48≤c∧c≤57:=by unfold dig at hd;simpa using hd
    obtain⟨d,hdd⟩:∃d,d=c-48:=⟨_,rfl⟩
    have ST:Hid (Xij ((bs s).take (j+1))=10*n+d):=Hd (by rw[Xrp (by rw[LEN.out];exact hlt) hc,←hn.out,hdd])
    have GE:Hid (most<10*n+d→R=(0,2)):=Hd (fun h=>by
     have:=Xro (bs s) (j+1)
     rw[ST.out] at this
     rw[RD2.out,if_neg (by omega)])
    have xj:∀w,(Instr.index 9 (.string s) (.int .i64 (j:Int))).run Tryz.prog w=.ok (.int .u8 (c:Int)) w:=fun w=>by rw[Xa7 9 Tryz.underlying9 s .i64 j j rfl hlt,hc]
    have s1:IntKind.u8.wrap ((c:Int)-48)=(d:Int):=by rw[IntKind.wrap_u8];omega
    have s2:IntKind.i64.wrap (d:Int)=(d:Int):=IntWalk.i64_in _ (by omega)
    have s3:IntKind.i64.wrap (10*(n:Int))=10*(n:Int):=IntWalk.i64_in _ (by omega)
    have s4:IntKind.i64.wrap (10*(n:Int)+(d:Int))=10*(n:Int)+(d:Int):=IntWalk.i64_in _ (by omega)
    have hd9:d≤9:=by omega
    have d2:decide ((j:Int)<(s.size:Int))=true:=by simpa using hlt
    clear hd hd1 hc hdd
    rcases(by omega:mq<n∨(n=mq∧mr<d)∨(n=mq∧¬mr<d)∨n<mq) with h|⟨h,h2⟩|⟨h,h2⟩|h
    ·have F:=Hd (GE.out (by have:=MQ.out;omega))
     have p1:decide ((mq:Int)<(n:Int))=true:=by simpa using h
     clear GE ST hn
     go_wp2_with fail
     go_ret2
     exact⟨by rw[F.out];rfl,rfl⟩
    ·have F:=Hd (GE.out (by have:=MQ.out;omega))
     subst h
     have p1:decide ((n:Int)<(n:Int))=false:=by simp
     have p3:decide ((mr:Int)<(d:Int))=true:=by simpa using h2
     clear GE ST hn
     go_wp2_with fail
     go_ret2
     exact⟨by rw[F.out];rfl,rfl⟩
    ·subst h
     have p1:decide ((n:Int)<(n:Int))=false:=by simp
     have p3:decide ((mr:Int)<(d:Int))=false:=by simpa using h2
     have NX:Hid (10*n+d=Xij ((bs s).take (j+1))):=Hd ST.out.symm
     have le2:10*n+d≤most:=by have:=MQ.out;omega
     clear GE ST hn
     go_wp2_with fail
     go_roundg (s.size-(j+1))
     case measure=>omega
     case rel=>exact⟨j+1,10*n+d,by omega,rfl,by go_num,by go_num,NX,le2,rfl⟩
    ·have p1:decide ((mq:Int)<(n:Int))=false:=by simp;omega
     have p2:((n:Int)==(mq:Int))=false:=Xak (by omega)
     have NX:Hid (10*n+d=Xij ((bs s).take (j+1))):=Hd ST.out.symm
     have le2:10*n+d≤most:=by have:=MQ.out;omega
     clear GE ST hn
     go_wp2_with fail
     go_roundg (s.size-(j+1))
     case measure=>omega
     case rel=>exact⟨j+1,10*n+d,by omega,rfl,by go_num,by go_num,NX,le2,rfl⟩
   ·obtain rfl:j=s.size:=by omega
    have F:Hid (R=(n,0)):=Hd (by
     have e:(bs s).take s.size=bs s:=List.take_of_length_le (by rw[LEN.out];exact Nat.le_refl _)
     rw[RD2.out,←e,←hn.out,if_pos hnm])
    have d2:decide ((s.size:Int)<(s.size:Int))=false:=by simp
    clear hn
    go_wp2_with fail
    go_ret2
    exact⟨by rw[F.out];rfl,rfl⟩
 ·clear hz
  go_upto_region 6 with fail
  go_wp2_with fail
  go_loopg [6,7,8,32] s.size (fun k vn v7 v8 vi wr=>∃j n:Nat,j≤s.size∧k=s.size-j∧vn=.int .i64 (n:Int)∧vi=.int .i64 (j:Int)∧Hid (n=Xij ((bs s).take j))∧n≤most∧w=wr)
  case atStart=>exact⟨0,0,by omega,rfl,rfl,rfl,Hd rfl,by omega,rfl⟩
  case round=>
   obtain⟨j,n,hj,rfl,rfl,rfl,hn,hnm,rfl⟩:=hrel
   by_cases hlt:j<s.size
   ·obtain⟨c,hc⟩:∃c,c=(bs s).getD j 0:=⟨_,rfl⟩
    have hd:=ALLD.out j hlt
    rw[←hc] at hd
    have hd1:48≤c∧c≤57:=by unfold dig at hd;simpa using hd
    obtain⟨d,hdd⟩:∃d,d=c-48:=⟨_,rfl⟩
    have ST:Hid (Xij ((bs s).take (j+1))=10*n+d):=Hd (by rw[Xrp (by rw[LEN.out];exact hlt) hc,←hn.out,hdd])
    have GE:Hid (most<10*n+d→R=(0,2)):=Hd (fun h=>by
     have:=Xro (bs s) (j+1)
     rw[ST.out] at this
     rw[RD2.out,if_neg (by omega)])
    have xj:∀w,(Instr.index 9 (.string s) (.int .i64 (j:Int))).run Tryz.prog w=.ok (.int .u8 (c:Int)) w:=fun w=>by rw[Xa7 9 Tryz.underlying9 s .i64 j j rfl hlt,hc]
    have s1:IntKind.u8.wrap ((c:Int)-48)=(d:Int):=by rw[IntKind.wrap_u8];omega
    have s2:IntKind.i64.wrap (d:Int)=(d:Int):=IntWalk.i64_in _ (by omega)
    have s3:IntKind.i64.wrap (10*(n:Int))=10*(n:Int):=IntWalk.i64_in _ (by omega)
    have s4:IntKind.i64.wrap (10*(n:Int)+(d:Int))=10*(n:Int)+(d:Int):=IntWalk.i64_in _ (by omega)
    have hd9:d≤9:=by omega
    have d2:decide ((j:Int)<(s.size:Int))=true:=by simpa using hlt
    clear hd hd1 hc hdd
    rcases(by omega:mq<n∨(n=mq∧mr<d)∨(n=mq∧¬mr<d)∨n<mq) with h|⟨h,h2⟩|⟨h,h2⟩|h
    ·have F:=Hd (GE.out (by have:=MQ.out;omega))
     have p1:decide ((mq:Int)<(n:Int))=true:=by simpa using h
     clear GE ST hn
     go_wp2_with fail
     go_ret2
     exact⟨by rw[F.out];rfl,rfl⟩
    ·have F:=Hd (GE.out (by have:=MQ.out;omega))
     subst h
     have p1:decide ((n:Int)<(n:Int))=false:=by simp
     have p3:decide ((mr:Int)<(d:Int))=true:=by simpa using h2
     clear GE ST hn
     go_wp2_with fail
     go_ret2
     exact⟨by rw[F.out];rfl,rfl⟩
    ·subst h
     have p1:decide ((n:Int)<(n:Int))=false:=by simp
     have p3:decide ((mr:Int)<(d:Int))=false:=by simpa using h2
     have NX:Hid (10*n+d=Xij ((bs s).take (j+1))):=Hd ST.out.symm
     have le2:10*n+d≤most:=by have:=MQ.out;omega
     clear GE ST hn
     go_wp2_with fail
     go_roundg (s.size-(j+1))
     case measure=>omega
     case rel=>exact⟨j+1,10*n+d,by omega,rfl,by go_num,by go_num,NX,le2,rfl⟩
    ·have p1:decide ((mq:Int)<(n:Int))=false:=by simp;omega
     have p2:((n:Int)==(mq:Int))=false:=Xak (by omega)
     have NX:Hid (10*n+d=Xij ((bs s).take (j+1))):=Hd ST.out.symm
     have le2:10*n+d≤most:=by have:=MQ.out;omega
     clear GE ST hn
     go_wp2_with fail
     go_roundg (s.size-(j+1))
     case measure=>omega
     case rel=>exact⟨j+1,10*n+d,by omega,rfl,by go_num,by go_num,NX,le2,rfl⟩
   ·obtain rfl:j=s.size:=by omega
    have F:Hid (R=(n,0)):=Hd (by
     have e:(bs s).take s.size=bs s:=List.take_of_length_le (by rw[LEN.out];exact Nat.le_refl _)
     rw[RD2.out,←e,←hn.out,if_pos hnm])
    have d2:decide ((s.size:Int)<(s.size:Int))=false:=by simp
    clear hn
    go_wp2_with fail
    go_ret2
    exact⟨by rw[F.out];rfl,rfl⟩
end Go.Proofs.YtohmdledkhgdaaaGreatDoor
