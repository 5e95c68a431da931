/- Lists of names of groups. -/
import Derived.Test.YtjolcnopipbkhaaGreatDoorFo04
import Derived.Lib.BytesEntry
import Derived.Lib.Bytealg
import Derived.Lib.SlBytesConst
namespace Go.Proofs.YtjolcnopipbkhaaGreatDoor
open Go.Proofs.Tryz
open Go.RowKit Go.Maps
set_option linter.unusedVariables false
set_option maxHeartbeats 100000000
set_option maxRecDepth 100000
theorem Xx5 (c:Nat):∀l:List Nat,∀p∈spl c l,p.length≤l.length
 |[],p,h=>by simp[spl] at h;subst h;simp
 |x::t,p,h=>by
  have ih:=Xx5 c t
  simp only[spl] at h
  split at h
  ·rcases List.mem_cons.1 h with rfl|h
   ·simp
   ·have:=ih p h;simp;omega
  ·split at h
   ·rename_i e;exact absurd e (Xkc c t)
   ·rename_i a r e
    rw[e] at ih
    rcases List.mem_cons.1 h with rfl|h
    ·have:=ih a (by simp);simp;omega
    ·have:=ih p (by simp[h]);simp;omega
theorem Xkd (c:Nat):∀l:List Nat,(spl c l).length≤l.length+1
 |[]=>by simp[spl]
 |x::t=>by
  have ih:=Xkd c t
  simp only[spl]
  split
  ·simp;omega
  ·split
   ·simp
   ·rename_i a r e;rw[e] at ih;simp at ih⊢;omega
def Xiz (c:Nat)(s:ByteArray)(w:World)(e:Ending)(w':World):Prop:=
 ∃(v:Value) (gs:List ByteArray),e=.returned v∧gs.map bs=spl c (bs s)∧SRow w' v gs∧(∀g∈gs,g.size≤s.size)∧gs.length≤s.size+1∧w'.ownsRow w.heap.size 9 1 v gs.length (gs.map Value.string)∧Bw w w'
theorem Xkb (s:ByteArray)(c:UInt8)(w:World)(hs:s.size≤1000000)(hE:Env w):
    Calls prog 149 #[.string s,.string ⟨#[c]⟩] w (Xiz c.toNat s w):=by
 obtain⟨m,hm⟩:=hE.mx
 refine(Xjj s ⟨#[c]⟩ m w (by omega) hm (by simp[ByteArray.size])).mono fun e w' ⟨h1,h2⟩=>?_
 have hlen:=Lib.splitB_all ⟨#[c]⟩ (by simp[ByteArray.size]) 0 (Lib.countB s ⟨#[c]⟩) s rfl
 have hmap:(Lib.splitB ⟨#[c]⟩ 0 (Lib.countB s ⟨#[c]⟩) s).map bs=spl c.toNat (bs s):=by
  have h3:=Lib.splitB_data ⟨#[c]⟩ 0 (Lib.countB s ⟨#[c]⟩) s
  have h4:=Xmj c s.data.toList
  have e1:(Lib.splitB ⟨#[c]⟩ 0 (Lib.countB s ⟨#[c]⟩) s).map bs=((Lib.splitB ⟨#[c]⟩ 0 (Lib.countB s ⟨#[c]⟩) s).map (·.data.toList)).map (fun p=>p.map UInt8.toNat):=by
   rw[List.map_map];rfl
  rw[e1,h3]
  exact h4
 generalize hg:Lib.splitB ⟨#[c]⟩ 0 (Lib.countB s ⟨#[c]⟩) s=gs at h2 hlen hmap
 subst h2
 refine⟨_,gs,h1,hmap,⟨some ⟨w.heap.size,0,none⟩,gs.length,by rw[hlen],zL _,fun _=>⟨w.heap.size,0,rfl,by simp,fun j hj=>?_⟩⟩,?_,?_,?_,(zR _ _).alloc (zL _) _⟩
 ·rw[Nat.zero_add,cell_of_row _ w.heap.size j _ 9 (0,0) (zN w _)]
  simp[hj]
 ·intro g hg'
  have:=Xx5 c.toNat (bs s) (bs g) (by rw[←hmap];exact List.mem_map_of_mem hg')
  rwa [Xaa,Xaa] at this
 ·have:=Xkd c.toNat (bs s)
  rw[←hmap,List.length_map,Xaa] at this
  exact this
 ·have:=Xkd c.toNat (bs s)
  rw[←hmap,List.length_map,Xaa] at this
  exact⟨by simp,.inr ⟨w.heap.size,gs.length,(gs.map Value.string).toArray,by rw[hlen],zL _,zN w _,zL _,by unfold maxLen;omega,by simp,by simp[List.take_of_length_le]⟩⟩
def Yjg (b:Bool)(w:World)(e:Ending)(w':World):Prop:=
 ∃n:Int,e=.returned (.int .i64 n)∧(b=true→0≤n)∧(b=false→n<0)∧Bw w w'
def Xv7 (g:ByteArray):Bool:=!Xeq (bs g)
theorem Yfi {p:ByteArray→Bool}{l:List ByteArray}{k:Nat}(h:(l.take k).any p=false)(hk:l.length≤k):l.any p=false:=by rwa [List.take_of_length_le hk] at h
theorem Yfh {p:ByteArray→Bool}{l:List ByteArray}{k:Nat}(hk:k<l.length)(h:p l[k]=true):l.any p=true:=by
 rw[List.any_eq_true];exact⟨_,zG hk,h⟩
theorem Ybu {p:ByteArray→Bool}{l:List ByteArray}{k:Nat}(h0:(l.take k).any p=false)(hk:k<l.length)(h:p l[k]=false):(l.take (k+1)).any p=false:=by
 rw[List.take_succ_eq_append_getElem hk,List.any_append,h0];simp[h]
theorem Ykr (w:World)(v:Value)(gs:List ByteArray)(hr:SRow w v gs)(hl:gs.length≤1000001)(hz:∀g∈gs,g.size≤1000000):
    Calls prog 225 #[v,.func (.func 175) #[] #[]] w (Yjg (gs.any Xv7) w):=by
 obtain⟨n,hn⟩:=xq gs.length
 obtain⟨a,cap,rfl,hcap,hcells⟩:=hr
 rw[←hn] at hl hcap⊢
 have HC:=Hd hcells;have HN:=Hd hn;have HZ:=Hd hz
 clear hcells hn hz
 go_enter func225,ntmps225
 go_wp2_with fail
 go_loopg [8] n (fun k i wr=>∃j:Nat,j≤n∧k=n-j∧i=.int .i64 (j:Int)∧Hid ((gs.take j).any Xv7=false)∧Hid (Bw w wr))
 case atStart=>exact⟨0,by omega,rfl,rfl,rfl,Hd (zR _ _)⟩
 case round=>
  obtain⟨j,hj,rfl,rfl,ha,hb⟩:=hrel
  by_cases h:j<n
  ·have hjl:j<gs.length:=by rw[←HN.o];exact h
   obtain⟨b,off,rfl,hbl,hcl⟩:=HC.o (by intro e;rw[e] at hjl;simp at hjl)
   obtain⟨g,hg⟩:=xq (gs[j])
   have hcc:wr.cell? ⟨b,off+j,none⟩=some (.string g):=by rw[hb.o.cell (p:=⟨b,off+j,none⟩) hbl,hg];exact hcl j hjl
   have hgz:g.size≤1000000:=by rw[hg];exact HZ.o _ (zG hjl)
   have C:=Hd (Xza g wr hgz)
   have HG:=Hd hg;have HJ:=Hd hjl
   obtain⟨p,hp⟩:=xq (!Xeq (bs g))
   rw[←hp] at C
   have HP:Hid (Xv7 g=p):=Hd hp.symm
   clear hg hcl hp hgz
   cases p
   ·go_wp2_with fail
    refine C.o.mono ?_
    rintro e w1 ⟨rfl,hb1⟩
    have B1:=bh hb hb1
    clear hb1 C hcc
    go_wp2_with fail
    go_roundg (n-(j+1))
    case measure=>omega
    case rel=>exact⟨j+1,by omega,rfl,by go_num,Hd (Ybu ha.o HJ.o (by rw[←HG.o];exact HP.o)),B1⟩
   ·go_wp2_with fail
    refine C.o.mono ?_
    rintro e w1 ⟨rfl,hb1⟩
    have B1:=bh hb hb1
    clear hb1 C hcc
    go_wp2_with fail
    go_ret
    exact⟨_,rfl,(fun _=>by omega),(fun h=>by rw[Yfh HJ.o (by rw[←HG.o];exact HP.o)] at h;cases h),B1.o⟩
  ·go_wp2_with fail
   go_ret
   exact⟨_,rfl,(fun h'=>by rw[Yfi ha.o (by rw[←HN.o];omega)] at h';cases h'),(fun _=>by decide),hb.o⟩
theorem Ylh (w:World)(v:Value)(gs:List ByteArray)(hr:SRow w v gs)(hl:gs.length≤1000001)(hz:∀g∈gs,g.size≤1000000):
    zJ 174 #[v,.func (.func 175) #[] #[]] w (.bool (gs.any Xv7)):=by
 have C:=Hd (Ykr w v gs hr hl hz)
 obtain⟨b,hb⟩:=xq (gs.any Xv7)
 rw[←hb] at C⊢
 clear hb hl hr hz
 go_enter func174,ntmps174
 go_wp2_with fail
 refine C.o.mono ?_
 rintro e w' ⟨m,rfl,h1,h2,hb⟩
 have HB:=Hd hb
 clear hb
 cases b
 ·have h:=h2 rfl
  clear h1 h2 C
  go_wp2_with fail
  go_ret
  exact⟨Xa0 (by simp;omega),HB.o⟩
 ·have h:=h1 rfl
  clear h1 h2 C
  go_wp2_with fail
  go_ret
  exact⟨rfl,HB.o⟩
theorem Xy4 (s:ByteArray)(w:World)(hs:s.size≤1000000)(hE:Env w):
    Calls prog 173 #[.string s] w (Xiz 46 s w):=by
 have S:=Hd (Xkb s 46 w hs hE)
 rw[show(46:UInt8).toNat=46 from rfl] at S
 clear hs hE
 go_enter func173,ntmps173
 go_wp2_with fail
 refine S.o.mono ?_
 rintro e w1 ⟨v,gs,rfl,h⟩
 have H:=Hd h
 clear h S
 go_wp2_with fail
 go_ret
 exact⟨v,gs,rfl,H.o⟩
theorem Ybs {gs:List ByteArray}{ls:List (List Nat)}(h:gs.map bs=ls):gs.any Xv7=ls.any (fun p=>!Xeq p):=by
 subst h;rw[List.any_map];rfl
theorem Xmz (s:ByteArray)(w:World)(hs:s.size≤1000000)(hE:Env w):
    zJ 124 #[.string s] w (.int .i64 (Xbf (bs s):Nat)):=by
 have P:=Hd (Xy4 s w hs hE)
 have LEN:=Hd (Xaa s)
 by_cases h80:80<s.size
 ·have N:Hid (Xbf (bs s)=5):=Hd (by unfold Xbf;rw[qP (by rw[LEN.o];exact h80)])
  clear hE P
  go_enter func124,ntmps124
  go_wp2_with fail
  go_ret
  exact⟨by rw[N.o];rfl,zR _ _⟩
 ·have N:Hid (Xbf (bs s)=if(spl 46 (bs s)).any (fun p=>!Xeq p)=true then 12 else if 10<(spl 46 (bs s)).length then 9 else 0):=Hd (by unfold Xbf;rw[qN (by rw[LEN.o];exact h80)])
  clear hE
  go_enter func124,ntmps124
  go_wp2_with fail
  refine P.o.mono ?_
  rintro e w1 ⟨v,gs,rfl,hm,hr,hz,hl,_,hb⟩
  have hv:∃a cap,v=.slice a gs.length cap:=by obtain⟨a,cap,h,_⟩:=hr;exact⟨a,cap,h⟩
  obtain⟨a,cap,rfl⟩:=hv
  have CF:=Hd (Ylh w1 _ gs hr (by omega) (fun g hg=>by have:=hz g hg;omega))
  have HB:=Hd hb
  rw[Ybs hm] at CF
  have HL:Hid (gs.length=(spl 46 (bs s)).length):=Hd (by rw[←hm,List.length_map])
  obtain⟨n,hn⟩:=xq gs.length
  rw[←hn] at HL CF⊢
  obtain⟨q,hq⟩:=xq ((spl 46 (bs s)).any (fun p=>!Xeq p))
  rw[←hq] at CF N
  have N2:Hid (Xbf (bs s)=if q=true then 12 else if 10<n then 9 else 0):=Hd (by rw[N.o,HL.o])
  clear hm hr hz hl hb P HL hn hq N
  go_wp2_with fail
  refine CF.o.mono ?_
  rintro e w2 ⟨rfl,hb2⟩
  have HB2:=bh HB hb2
  clear hb2 CF
  cases q
  ·by_cases h10:10<n
   ·go_wp2_with fail
    go_ret
    exact⟨by rw[N2.o,qN (by decide),qP h10];rfl,HB2.o⟩
   ·go_wp2_with fail
    go_ret
    exact⟨by rw[N2.o,qN (by decide),qN h10];rfl,HB2.o⟩
  ·go_wp2_with fail
   go_ret
   exact⟨by rw[N2.o];rfl,HB2.o⟩
theorem Xdt {a b:ByteArray}(h:bs a=bs b):a=b:=by rw[←Xd3 a,h,Xd3]
theorem Yki {x:ByteArray}{gs:List ByteArray}:bs x∈gs.map bs↔x∈gs:=
 ⟨fun h=>by obtain⟨y,hy,e⟩:=List.mem_map.1 h;rw[←Xdt e];exact hy,List.mem_map_of_mem⟩
theorem Ya6 (w:World)(a:Option Addr)(n cap:Nat)(gs:List ByteArray)(x:ByteArray)(hn:n≤gs.length)(hl:gs.length≤1000000)(hc:gs≠[]→∃b off,a=some ⟨b,off,none⟩∧b<w.heap.size∧∀j (h:j<gs.length),w.cell? ⟨b,off+j,none⟩=some (.string gs[j])):
    Rx 125 #[.slice a n cap,.string x] w (.bool (decide (bs x∈(gs.map bs).take n))):=by
 by_cases h0:n=0
 ·subst h0
  exact(Xde a cap x w).mono fun e w' h=>⟨by rw[h.1];simp,h.2.symm⟩
 ·obtain⟨b,off,rfl,hb,hcl⟩:=hc (by intro e;rw[e] at hn;simp at hn;omega)
  refine(Xel b off n cap gs x w hn (by omega) (fun j hj=>by rw[hcl j hj];simp[List.getD,hj])).mono fun e w' h=>⟨?_,h.2.symm⟩
  rw[h.1]
  have e:Lib.containsS (gs.take n) x=decide (bs x∈(gs.map bs).take n):=by rw[Bool.eq_iff_iff,Lib.containsS_iff,decide_eq_true_iff,←List.map_take,Yki]
  rw[e]
theorem Xiq (f:List Nat→Nat)(d:Nat)(L:List (List Nat))(j:Nat)(h:j<L.length):
    Xc9 f d (L.take j) (L.drop j)=if f L[j]≠0 then f L[j] else if L[j]∈L.take j then d else Xc9 f d (L.take (j+1)) (L.drop (j+1)):=by
 rw[List.drop_eq_getElem_cons h,Xc9,List.take_succ_eq_append_getElem h]
 simp only[List.contains_iff_mem]
theorem Xqo (w:World)(v:Value)(gs:List ByteArray)(hr:SRow w v gs)(hl:gs.length≤1000000)(hz:∀g∈gs,g.size≤1000000)(hE:Env w):
    zJ 77 #[v] w (.int .i64 (Xcd Xbf (gs.map bs):Nat)):=by
 obtain⟨n,hn⟩:=xq gs.length
 obtain⟨a,cap,rfl,hcap,hcells⟩:=hr
 rw[←hn] at hcap hl⊢
 have HN:=Hd hn
 have HC:=Hd hcells;have HZ:=Hd hz;have HE:=Hd hE
 by_cases h20:20<n
 ·have F:Hid (Xcd Xbf (gs.map bs)=9):=Hd (by unfold Xcd;rw[qP (by rw[List.length_map,←hn];exact h20)])
  clear hcells hn hz hE
  go_enter func77,ntmps77
  go_wp2_with fail
  go_ret
  exact⟨by rw[F.o];rfl,zR _ _⟩
 ·have F:Hid (Xcd Xbf (gs.map bs)=Xc9 Xbf 7 ((gs.map bs).take 0) ((gs.map bs).drop 0)):=Hd (by unfold Xcd;rw[qN (by rw[List.length_map,←hn];exact h20)];rfl)
  clear hcells hn hz hE
  go_enter func77,ntmps77
  go_wp2_with fail
  go_loopg [3,4,5,11] n (fun k s3 s4 s5 i wr=>∃j:Nat,j≤n∧k=n-j∧i=.int .i64 (j:Int)∧Hid (Xcd Xbf (gs.map bs)=Xc9 Xbf 7 ((gs.map bs).take j) ((gs.map bs).drop j))∧Hid (Bw w wr))
  case atStart=>exact⟨0,by omega,rfl,rfl,F,Hd (zR _ _)⟩
  case round=>
   obtain⟨j,hj,rfl,rfl,ha,hb⟩:=hrel
   by_cases h:j<n
   ·have hjl:j<gs.length:=by rw[←HN.o];exact h
    obtain⟨b,off,rfl,hbl,hcl⟩:=HC.o (by intro e;rw[e] at hjl;simp at hjl)
    obtain⟨g,hg⟩:=xq (gs[j])
    have hcc:wr.cell? ⟨b,off+j,none⟩=some (.string g):=by rw[hb.o.cell (p:=⟨b,off+j,none⟩) hbl,hg];exact hcl j hjl
    have hgz:g.size≤1000000:=by rw[hg];exact HZ.o _ (zG hjl)
    have C:=Hd (Xmz g wr hgz (HE.o.on hb.o))
    have ST:=Hd (Xiq Xbf 7 (gs.map bs) j (by simpa using hjl))
    simp only[List.getElem_map,←hg] at ST
    have KC:Hid (∀w',Bw wr w'→Calls prog 125 #[.slice (some ⟨b,off,none⟩) j cap,.string g] w' fun e w''=>e=.returned (.bool (decide (bs g∈(gs.map bs).take j)))∧w'=w''):=Hd (fun w' hw=>
     Ya6 w' _ j cap gs g (by omega) (by rw[←HN.o];omega) (fun _=>⟨b,off,rfl,Nat.lt_of_lt_of_le hbl (Nat.le_trans hb.o.size hw.size),fun k hk=>((bg hb.o hw).cell (p:=⟨b,off+k,none⟩) hbl).trans (hcl k hk)⟩))
    obtain⟨m,hm⟩:=xq (Xbf (bs g))
    rw[←hm] at C ST
    obtain⟨q,hq⟩:=xq (decide (bs g∈(gs.map bs).take j))
    rw[←hq] at KC
    have HQ:=Hd hq
    clear hg hcl hm hgz hq
    go_wp2_with fail
    refine C.o.mono ?_
    rintro e w1 ⟨rfl,hb1⟩
    have B1:=Hd hb1
    have B2:=bh hb hb1
    have K1:=Hd (KC.o w1 hb1)
    clear hb1 C hcc KC
    by_cases m0:m=0
    ·have q0:((m:Int) !=0)=false:=Xau (by omega)
     have M0:=Hd m0
     clear m0
     cases q
     ·have ST2:Hid (Xcd Xbf (gs.map bs)=Xc9 Xbf 7 ((gs.map bs).take (j+1)) ((gs.map bs).drop (j+1))):=Hd (by
         rw[ha.o,ST.o,qN (by rw[M0.o];decide),qN (of_decide_eq_false HQ.o.symm)])
      go_wp2_with (go_at_call 125;refine K1.o.mono ?_;rintro e w' ⟨rfl,rfl⟩)
      go_roundg (n-(j+1))
      case measure=>omega
      case rel=>exact⟨j+1,by omega,rfl,by go_num,ST2,B2⟩
     ·have ST2:Hid (Xcd Xbf (gs.map bs)=7):=Hd (by
         rw[ha.o,ST.o,qN (by rw[M0.o];decide),qP (of_decide_eq_true HQ.o.symm)])
      go_wp2_with (go_at_call 125;refine K1.o.mono ?_;rintro e w' ⟨rfl,rfl⟩)
      go_ret
      exact⟨by rw[ST2.o];rfl,B2.o⟩
    ·have q0:((m:Int) !=0)=true:=Xam (by omega)
     have ST2:Hid (Xcd Xbf (gs.map bs)=m):=Hd (by rw[ha.o,ST.o,qP m0])
     clear m0
     go_wp2_with fail
     go_ret
     exact⟨by rw[ST2.o];rfl,B2.o⟩
   ·obtain rfl:j=n:=by omega
    have ST2:Hid (Xcd Xbf (gs.map bs)=0):=Hd (by rw[ha.o,List.drop_of_length_le (by rw[List.length_map,HN.o];exact zL _)];rfl)
    go_wp2_with fail
    go_ret
    exact⟨by rw[ST2.o];rfl,hb.o⟩
def StL (t:ByteArray)(en er en' er':Nat)(f:List Nat→Nat):Prop:=
 ∀k:List Nat→Nat,fe er (nxt ((bs t).drop en) fun x T=>fe (f x) (k T))=fe er' (k ((bs t).drop en'))
theorem StL.no {t:ByteArray}{en er en' er':Nat}{f:List Nat→Nat}(h:er'≠0)(hk:∀k,fe er (nxt ((bs t).drop en) k)=er'):StL t en er en' er' f:=by
 intro k
 rw[hk];unfold fe;rw[qP h]
theorem StL.yes {t:ByteArray}{en en':Nat}{f:List Nat→Nat}{x:List Nat}(hk:∀k,nxt ((bs t).drop en) k=k x ((bs t).drop en')):StL t en 0 en' (f x) f:=by
 intro k
 rw[hk];rfl
def Xme (w:World)(b:Nat)(t:ByteArray)(en er:Nat)(f:List Nat→Nat)(R:Value→Prop)(e:Ending)(w':World):Prop:=
 ∃(v:Value) (st' en':Nat) (a:Int) (er':Nat),e=.returned v∧R v∧WS w' b t st' en' a er'∧Fr1 b w w'∧StL t en er en' er' f
theorem Xlc (w:World)(b:Nat)(t:ByteArray)(st en:Nat)(at_:Int)(er:Nat)(h:WS w b t st en at_ er)(hE:Env w)(hb9:9≤b)(ht:t.size≤1000000):
    Calls prog 193 #[.pointer (some ⟨b,0,none⟩)] w (Xme w b t en er Xiu fun v=>∃s,v=.string s∧s.size≤t.size):=by
 have NX:=Hd (Xf8 w b t st en at_ er h hE hb9 ht)
 have HE:=Hd hE
 clear h hE
 go_enter func193,ntmps193
 go_wp2_with fail
 refine NX.o.mono ?_
 rintro e w1 ⟨x,ok,st',en',a,er',rfl,h1,f1,hx,h⟩
 have H1:=Hd h1;have F1:=Hd f1
 have E1:=Hd (Xbu HE.o hb9 f1)
 clear NX h1 f1
 rcases h with⟨rfl,hne,hk⟩|⟨rfl,rfl,rfl,hk⟩
 ·have SL:Hid (StL t en er en' er' Xiu):=Hd (StL.no hne hk)
  clear hne hk
  go_wp2_with fail
  go_ret
  exact⟨_,st',en',a,er',rfl,⟨x,rfl,hx⟩,H1.o,F1.o,SL.o⟩
 ·have SL:Hid (StL t en 0 en' (Xiu (bs x)) Xiu):=Hd (StL.yes hk)
  have GC:=Hd (Xmz x w1 (by omega) E1.o)
  have GF:Hid (Xiu (bs x)=if Xbf (bs x)=0 then 0 else 12):=Hd rfl
  obtain⟨m,hm⟩:=xq (Xbf (bs x))
  rw[←hm] at GC GF
  clear hk hm
  by_cases m0:m=0
  ·have q0:((m:Int) !=0)=false:=by rw[m0];rfl
   have SL2:Hid (StL t en 0 en' 0 Xiu):=Hd (by have:=SL.o;rw[GF.o,qP m0] at this;exact this)
   clear m0 SL GF
   go_wp2_with fail
   refine GC.o.mono ?_
   rintro e w2 ⟨rfl,hb2⟩
   have H2:=Hd (H1.o.below hb2);have F2:=Hd (F1.o.trans (Fr1.of_below hb2))
   clear hb2 GC
   go_wp2_with fail
   go_ret
   exact⟨_,st',en',a,0,rfl,⟨x,rfl,hx⟩,H2.o,F2.o,SL2.o⟩
  ·have q0:((m:Int) !=0)=true:=Xam (by omega)
   have SL2:Hid (StL t en 0 en' 12 Xiu):=Hd (by have:=SL.o;rw[GF.o,qN m0] at this;exact this)
   clear m0 SL GF
   go_wp2_with fail
   refine GC.o.mono ?_
   rintro e w2 ⟨rfl,hb2⟩
   have h2:=H1.o.below hb2
   have hc1:w2.cell? ⟨b,1,none⟩=some (.int .i64 (st':Int)):=cell_of_row w2 b 1 _ _ _ h2.1
   have F2:=Hd (F1.o.trans (Fr1.of_below hb2))
   have FL:=Hd (Xb8 w2 b t st' en' a 0 h2 (st':Int) 12)
   clear hb2 GC h2
   go_wp2_with fail
   refine FL.o.mono ?_
   rintro e w3 ⟨⟨v,rfl⟩,⟨a',h3⟩,f3⟩
   have H3:Hid (WS w3 b t st' en' a' 12):=Hd h3;have F3:=Hd (F2.o.trans f3)
   clear FL h3 f3 hc1
   go_wp2_with fail
   go_ret
   exact⟨_,st',en',a',12,rfl,⟨x,rfl,hx⟩,H3.o,F3.o,SL2.o⟩
theorem Xin (w:World)(b:Nat)(t:ByteArray)(st en:Nat)(at_:Int)(er:Nat)(h:WS w b t st en at_ er)(hE:Env w)(hb9:9≤b)(ht:t.size≤1000000)(lo hi:Nat)(hlo:lo≤1000000)(hhi:hi≤1000000):
    Calls prog 195 #[.pointer (some ⟨b,0,none⟩),.int .i64 (lo:Int),.int .i64 (hi:Int)] w (Xme w b t en er (Xfi lo hi) fun v=>∃n:Int,v=.int .i64 n):=by
 have NX:=Hd (Xf8 w b t st en at_ er h hE hb9 ht)
 have HE:=Hd hE
 clear h hE
 go_enter func195,ntmps195
 go_wp2_with fail
 refine NX.o.mono ?_
 rintro e w1 ⟨x,ok,st',en',a,er',rfl,h1,f1,hx,h⟩
 have hc1:w1.cell? ⟨b,1,none⟩=some (.int .i64 (st':Int)):=cell_of_row w1 b 1 _ _ _ h1.1
 have H1:=Hd h1;have F1:=Hd f1
 clear NX h1 f1
 rcases h with⟨rfl,hne,hk⟩|⟨rfl,rfl,rfl,hk⟩
 ·have SL:Hid (StL t en er en' er' (Xfi lo hi)):=Hd (StL.no hne hk)
  clear hne hk
  go_wp2_with fail
  go_ret
  exact⟨_,st',en',a,er',rfl,⟨_,rfl⟩,H1.o,F1.o,SL.o⟩
 ·have SL:Hid (StL t en 0 en' (Xfi lo hi (bs x)) (Xfi lo hi)):=Hd (StL.yes hk)
  have DC:=Hd (Xsj x w1 (by omega))
  have FL:=Hd (fun n=>Xb8 w1 b t st' en' a 0 H1.o (st':Int) n)
  have NF:Hid (Xfi lo hi (bs x)=match Xlx (bs x) with|none=>3|some n=>if n<lo∨hi<n then 2 else 0):=Hd rfl
  clear hk
  cases hp:Xlx (bs x) with
  |none=>
   have SL2:Hid (StL t en 0 en' 3 (Xfi lo hi)):=Hd (by have:=SL.o;rw[NF.o,hp] at this;exact this)
   clear SL NF
   go_wp2_with fail
   refine DC.o.mono ?_
   rintro e w2 ⟨he,rfl⟩
   rw[hp] at he
   obtain rfl:=he
   clear DC hp
   go_wp2_with fail
   refine(FL.o 3).mono ?_
   rintro e w3 ⟨⟨v,rfl⟩,⟨a',h3⟩,f3⟩
   have H3:Hid (WS w3 b t st' en' a' 3):=Hd h3;have F3:=Hd (F1.o.trans f3)
   clear FL h3 f3 hc1
   go_wp2_with fail
   go_ret
   exact⟨_,st',en',a',3,rfl,⟨_,rfl⟩,H3.o,F3.o,SL2.o⟩
  |some n=>
   by_cases hb:n<lo∨hi<n
   ·have SL2:Hid (StL t en 0 en' 2 (Xfi lo hi)):=Hd (by have:=SL.o;rw[NF.o,hp] at this;simp only[qP hb] at this;exact this)
    clear SL NF
    go_wp2_with fail
    refine DC.o.mono ?_
    rintro e w2 ⟨he,rfl⟩
    rw[hp] at he
    obtain rfl:=he
    clear DC hp
    by_cases hl:n<lo
    ·clear hb
     go_wp2_with fail
     refine(FL.o 2).mono ?_
     rintro e w3 ⟨⟨v,rfl⟩,⟨a',h3⟩,f3⟩
     have H3:Hid (WS w3 b t st' en' a' 2):=Hd h3;have F3:=Hd (F1.o.trans f3)
     clear FL h3 f3 hc1
     go_wp2_with fail
     go_ret
     exact⟨_,st',en',a',2,rfl,⟨_,rfl⟩,H3.o,F3.o,SL2.o⟩
    ·have hl2:hi<n:=by omega
     clear hb
     go_wp2_with fail
     refine(FL.o 2).mono ?_
     rintro e w3 ⟨⟨v,rfl⟩,⟨a',h3⟩,f3⟩
     have H3:Hid (WS w3 b t st' en' a' 2):=Hd h3;have F3:=Hd (F1.o.trans f3)
     clear FL h3 f3 hc1
     go_wp2_with fail
     go_ret
     exact⟨_,st',en',a',2,rfl,⟨_,rfl⟩,H3.o,F3.o,SL2.o⟩
   ·have SL2:Hid (StL t en 0 en' 0 (Xfi lo hi)):=Hd (by have:=SL.o;rw[NF.o,hp] at this;simp only[qN hb] at this;exact this)
    have hl:¬n<lo:=by omega
    have hl2:¬hi<n:=by omega
    clear SL NF hb
    go_wp2_with fail
    refine DC.o.mono ?_
    rintro e w2 ⟨he,rfl⟩
    rw[hp] at he
    obtain rfl:=he
    clear DC hp
    go_wp2_with fail
    go_ret
    exact⟨_,st',en',a,0,rfl,⟨_,rfl⟩,H1.o,F1.o,SL2.o⟩
theorem WS.row {w:World}{b:Nat}{t:ByteArray}{st en:Nat}{at_:Int}{er:Nat}(h:WS w b t st en at_ er){g:Nat}(hg:b≠g)(cs:Array Value):WS (w.setRow g cs) b t st en at_ er:=⟨(setRow_other w g b cs hg).trans h.1,h.2⟩
theorem Fr1.row {b g:Nat}{w w':World}(h:Fr1 b w w')(hg:w.heap.size≤g)(cs:Array Value):Fr1 b w (w'.setRow g cs):=
 have B:=below_setRow (zR g w') (zL g) cs
 ⟨B.os.trans h.os,B.tape.trans h.tape,B.output.trans h.output,Nat.le_trans h.size B.size,fun k hk hne=>(setRow_other w' g k cs (by omega)).trans (h.other k hk hne)⟩
def Cl (n:Nat)(cs:Array Value):Prop:=cs.size=n∧cs.all (·.oneCell')=true
theorem Ye5 {l:List Nat}(h:IdOk l):Cl 32 (idA l):=⟨by rw[Xag,h.len],Xek _⟩
theorem Xal (w:World)(g n:Nat)(ty:TypeId)(d:TypeDesc)(cs:Array Value)(T:TypeId)(fr:Nat×Nat)(hg:w.heap[g]?=some (.cells cs T fr))(hd:(match d with|.struct _|.array _ _=>true|_=>false)=true)(hu:prog.underlying ty=some d)(hi:(prog.info? ty).map (·.size)=some n)(hc:cs.size=n):
    (loadVar ty ⟨g,0,none⟩).run prog w=.ok (.agg cs) w:=
 by
 have hi':(prog.info? ty).map (·.size)=some cs.size:=by rw[hi,hc]
 cases d<;>first|exact run_loadVar_row w g T ty cs fr _ hg hu rfl hi'|exact absurd hd (by simp)
theorem Xmi (w:World)(b:Nat)(t:ByteArray)(st en:Nat)(at_:Int)(er:Nat)(h:WS w b t st en at_ er)(hE:Env w)(hb9:9≤b)(ht:t.size≤1000000):
    Calls prog 191 #[.pointer (some ⟨b,0,none⟩)] w (Xme w b t en er Xid fun v=>∃cs,v=.agg cs∧Cl 32 cs):=by
 obtain⟨zs,hzs⟩:=xq (idA zero32)
 have zcl:Cl 32 zs:=by rw[hzs];exact Ye5 zero_ok
 have BU:Hid (∀w,(Instr.build 26 #[]).run prog w=.ok (.agg zs) w):=Hd (fun w=>by rw[hzs];kernel_rfl)
 have hbw:=h.lt
 have NX:Hid (∀w0,w.alloc (.cells zs 26)=w0→Calls prog 239 #[.pointer (some ⟨b,0,none⟩)] w0 (Yb2 (w.alloc (.cells zs 26)) b t st en er)):=Hd (by
  rintro w0 rfl
  have B:=(zR w.heap.size w).alloc (zL _) (.cells zs 26)
  exact Xf8 _ b t st en at_ er (h.below B) (hE.on B) hb9 ht)
 have START:Hid (w.alloc (.cells zs 26)=w.alloc (.cells (Array.replicate 32 (.int .u8 0)) 26)):=Hd (by rw[hzs];rfl)
 have HE:=Hd hE
 have ZCL:=Hd zcl
 clear h hE hzs zcl
 go_enter func191,ntmps191
 go_wp2_with fail
 refine(NX.o _ START.o).mono ?_
 rintro e w1 ⟨x,ok,st',en',a,er',rfl,h1,f1,hx,h⟩
 have hz1:w1.heap[w.heap.size]?=some (.cells zs 26 (0,0)):=(f1.other w.heap.size (by simp) (by omega)).trans (zN w _)
 have f0:Fr1 b w w1:=(Fr1.of_below ((zR w.heap.size w).alloc (zL _) _)).trans f1
 have H1:=Hd h1;have F1:=Hd f0;have Z1:=Hd hz1
 have hs1:w.heap.size<w1.heap.size:=zY hz1
 clear NX h1 f1 START f0 hz1
 rcases h with⟨rfl,hne,hk⟩|⟨rfl,rfl,rfl,hk⟩
 ·have SL:Hid (StL t en er en' er' Xid):=Hd (StL.no hne hk)
  have ST:=Hd (run_storeVar_row (P:=prog) w1 w.heap.size _ 26 zs zs Z1.o (by rw[ZCL.o.1];exact Xa3) rfl ZCL.o.2)
  have W2:=Hd (setRow_heap w1 w.heap.size zs zs _ _ Z1.o)
  have H2:=Hd (H1.o.row (show b≠w.heap.size by omega) zs)
  have F2:=Hd (F1.o.row (zL w.heap.size) zs)
  clear hne hk
  go_wp2_with (first
   |((with_reducible refine Xaf 26 rfl rfl ?_);refine⟨_,BU.o _,?_⟩)
   |((with_reducible refine Xab 26 rfl _ _ rfl ?_);refine⟨_,_,_,rfl,rfl,ST.o,?_⟩))
  exact zP (results_cell_row results191 _ _ w.heap.size _ _ _ _ rfl W2.o underlying26 rfl (by rw[ZCL.o.1];exact Xa3)) rfl
   ⟨_,st',en',a,er',rfl,⟨_,rfl,ZCL.o⟩,H2.o,F2.o,SL.o⟩
 ·have SL:Hid (StL t en 0 en' (Xid (bs x)) Xid):=Hd (StL.yes hk)
  have MP:=Hd (Xio x w1 (by omega))
  have TF:Hid (Xid (bs x)=match Xfl (bs x) with|none=>3|some i=>if i=zero32 then 1 else 0):=Hd rfl
  clear hk
  have FIN:Hid (∀(w4:World) (cs:Array Value) (p:Nat) (st':Nat) (a:Int) (n:Nat),Cl 32 cs→w4.heap[w.heap.size]?=some (.cells zs 26 (0,0))→w4.heap[p]?=some (.cells cs 26 (0,0))→WS w4 b t st' en' a n→Fr1 b w w4→StL t en 0 en' n Xid→
      Ld 26 ⟨p,0,none⟩ w4 (.agg cs)∧Sv 26 ⟨w.heap.size,0,none⟩ (.agg cs) w4 (w4.setRow w.heap.size cs)∧
      (∀tmps:Array Value,tmps.getD 2 undef=.pointer (some ⟨w.heap.size,0,none⟩)→(results Tryz.f191 tmps).run prog (w4.setRow w.heap.size cs)=.ok (.agg cs) (w4.setRow w.heap.size cs))∧
      Xme w b t en 0 Xid (fun v=>∃cs,v=.agg cs∧Cl 32 cs) (.returned (.agg cs)) (w4.setRow w.heap.size cs)):=Hd (fun w4 cs p st' a n hcl hg hp hw hf hsl=>
   ⟨Xal w4 p 32 _ _ cs _ _ hp rfl underlying26 Xa3 hcl.1,
    run_storeVar_row (P:=prog) w4 w.heap.size _ 26 zs cs hg (by rw[hcl.1];exact Xa3) (by rw[hcl.1,ZCL.o.1]) hcl.2,
    fun tmps h2=>results_cell_row results191 tmps _ w.heap.size _ _ _ _ h2 (setRow_heap w4 w.heap.size zs cs _ _ hg) underlying26 rfl (by rw[hcl.1];exact Xa3),
    ⟨_,st',en',a,n,rfl,⟨_,rfl,hcl⟩,hw.row (by omega) cs,hf.row (zL _) cs,hsl⟩⟩)
  cases hp:Xfl (bs x) with
  |none=>
   have SL2:Hid (StL t en 0 en' 3 Xid):=Hd (by have:=SL.o;rw[TF.o,hp] at this;exact this)
   clear SL TF
   go_wp2_with fail
   refine MP.o.mono ?_
   rintro e w2 ⟨a2,er2,hv,hb2⟩
   rw[hp] at hv
   obtain⟨rfl,her⟩:=hv
   obtain⟨cs,hcs⟩:=xq (idA zero32)
   have CL:Hid (Cl 32 cs):=Hd (by rw[hcs];exact Ye5 zero_ok)
   rw[←hcs]
   have q0:(er2 !=0)=true:=Xam her
   have STN:Hid (∀zz:Array Value,zz.size=32→Sv 26 ⟨w2.heap.size,0,none⟩ (.agg cs) (w2.alloc (.cells zz 26)) (w2.alloc (.cells cs 26))):=Hd (fun zz hz=>run_storeVar_new w2 26 zz cs (by rw[CL.o.1];exact Xa3) (by rw[hz,CL.o.1]) CL.o.2)
   have hb3:Bw w1 (w2.alloc (.cells cs 26)):=hb2.alloc hb2.size _
   have h3:=H1.o.below hb3
   have hc1:(w2.alloc (.cells cs 26)).cell? ⟨b,1,none⟩=some (.int .i64 (st':Int)):=cell_of_row _ b 1 _ _ _ h3.1
   have Z3:=Hd ((hb3.block _ hs1).trans Z1.o)
   have P3:=Hd (zN w2 (.cells cs 26))
   have F3:=Hd (F1.o.trans (Fr1.of_below hb3))
   have FL:=Hd (Xb8 _ b t st' en' a 0 h3 (st':Int) 3)
   have hbp:b≠w2.heap.size:=by have:=H1.o.lt;have:=hb2.size;omega
   have hgp:w.heap.size<w2.heap.size:=by have:=hb2.size;omega
   clear MP hp her hb2 hb3 h3 hcs
   go_wp2_with ((with_reducible refine Xab 26 rfl _ _ rfl ?_);refine⟨_,_,_,rfl,rfl,STN.o _ rfl,?_⟩)
   refine FL.o.mono ?_
   rintro e w4 ⟨⟨v,rfl⟩,⟨a',h4⟩,f4⟩
   obtain⟨LD,ST,RES,POST⟩:=FIN.o w4 cs w2.heap.size st' a' 3 CL.o ((f4.other _ (by simp;omega) (by omega)).trans Z3.o) ((f4.other _ (by simp) (by omega)).trans P3.o) h4 (F3.o.trans f4) SL2.o
   have LD:=Hd LD;have ST:=Hd ST;have RES:=Hd RES;have POST:=Hd POST
   clear h4 f4 FL FIN hc1
   go_upto_region 9 with fail
   refine wp_region_list ?_
   simp only[]
   refine Xac 26 rfl _ rfl ⟨_,_,rfl,LD.o,?_⟩
   go_wp2_with ((with_reducible refine Xab 26 rfl _ _ rfl ?_);refine⟨_,_,_,rfl,rfl,ST.o,?_⟩)
   exact zP (RES.o _ rfl) rfl POST.o
  |some l=>
   have IOK:=Hd (Xmp hp)
   obtain⟨z,hz⟩:=xq (decide (l=zero32))
   have SL2:Hid (StL t en 0 en' (if z=true then 1 else 0) Xid):=Hd (by have:=SL.o;rw[TF.o,hp] at this;simp only[hz,decide_eq_true_eq];exact this)
   clear SL TF
   go_wp2_with fail
   refine MP.o.mono ?_
   rintro e w2 ⟨a2,er2,hv,hb2⟩
   rw[hp] at hv
   obtain rfl:=hv
   obtain⟨cs,hcs⟩:=xq (idA l)
   have CL:Hid (Cl 32 cs):=Hd (by rw[hcs];exact Ye5 IOK.o)
   have IZ:Hid (∀w,zJ 82 #[.agg cs] w (.bool z)):=Hd (fun w=>by rw[hz,hcs];exact Xgb w IOK.o)
   rw[←hcs]
   have STN:Hid (∀zz:Array Value,zz.size=32→Sv 26 ⟨w2.heap.size,0,none⟩ (.agg cs) (w2.alloc (.cells zz 26)) (w2.alloc (.cells cs 26))):=Hd (fun zz hz=>run_storeVar_new w2 26 zz cs (by rw[CL.o.1];exact Xa3) (by rw[hz,CL.o.1]) CL.o.2)
   have hb3:Bw w1 (w2.alloc (.cells cs 26)):=hb2.alloc hb2.size _
   have H3:=Hd (H1.o.below hb3)
   have Z3:=Hd ((hb3.block _ hs1).trans Z1.o)
   have P3:=Hd (zN w2 (.cells cs 26))
   have F3:=Hd (F1.o.trans (Fr1.of_below hb3))
   have LD0:Hid (Ld 26 ⟨w2.heap.size,0,none⟩ (w2.alloc (.cells cs 26)) (.agg cs)):=Hd (Xal _ w2.heap.size 32 _ _ cs _ _ P3.o rfl underlying26 Xa3 CL.o.1)
   have hbp:b<w2.heap.size:=by have:=H1.o.lt;have:=hb2.size;omega
   have hgp:w.heap.size<w2.heap.size:=by have:=hb2.size;omega
   clear MP hp hb2 hb3 hcs hz
   go_upto_region 7 with((with_reducible refine Xab 26 rfl _ _ rfl ?_);refine⟨_,_,_,rfl,rfl,STN.o _ rfl,?_⟩)
   refine wp_region_list ?_
   simp only[]
   refine Xac 26 rfl _ rfl ⟨_,_,rfl,LD0.o,?_⟩
   go_wp2_with fail
   refine(IZ.o _).mono ?_
   rintro e w3 ⟨rfl,hb4⟩
   have h4:=H3.o.below hb4
   have hc1:w3.cell? ⟨b,1,none⟩=some (.int .i64 (st':Int)):=cell_of_row _ b 1 _ _ _ h4.1
   have Z4:=Hd ((hb4.block _ (by simp;omega)).trans Z3.o)
   have P4:=Hd ((hb4.block _ (by simp)).trans P3.o)
   have F4:=Hd (F3.o.trans (Fr1.of_below hb4))
   have H4:=Hd h4
   have hs4:w2.heap.size<w3.heap.size:=zY P4.o
   have FL:=Hd (Xb8 _ b t st' en' a 0 h4 (st':Int) 1)
   clear hb4 h4 IZ LD0 STN Z3 P3
   cases z
   ·obtain⟨LD,ST,RES,POST⟩:=FIN.o w3 cs w2.heap.size st' a 0 CL.o Z4.o P4.o H4.o F4.o SL2.o
    have LD:=Hd LD;have ST:=Hd ST;have RES:=Hd RES;have POST:=Hd POST
    clear FL FIN hc1
    go_upto_region 9 with fail
    refine wp_region_list ?_
    simp only[]
    refine Xac 26 rfl _ rfl ⟨_,_,rfl,LD.o,?_⟩
    go_wp2_with ((with_reducible refine Xab 26 rfl _ _ rfl ?_);refine⟨_,_,_,rfl,rfl,ST.o,?_⟩)
    exact zP (RES.o _ rfl) rfl POST.o
   ·go_wp2_with fail
    refine FL.o.mono ?_
    rintro e w4 ⟨⟨v,rfl⟩,⟨a',h4⟩,f4⟩
    obtain⟨LD,ST,RES,POST⟩:=FIN.o w4 cs w2.heap.size st' a' 1 CL.o ((f4.other _ (by omega) (by omega)).trans Z4.o) ((f4.other _ (by omega) (by omega)).trans P4.o) h4 (F4.o.trans f4) SL2.o
    have LD:=Hd LD;have ST:=Hd ST;have RES:=Hd RES;have POST:=Hd POST
    clear h4 f4 FL FIN hc1
    go_upto_region 9 with fail
    refine wp_region_list ?_
    simp only[]
    refine Xac 26 rfl _ rfl ⟨_,_,rfl,LD.o,?_⟩
    go_wp2_with ((with_reducible refine Xab 26 rfl _ _ rfl ?_);refine⟨_,_,_,rfl,rfl,ST.o,?_⟩)
    exact zP (RES.o _ rfl) rfl POST.o
def Xu6 (w:World)(b:Nat)(t:ByteArray)(en er:Nat)(e:Ending)(w':World):Prop:=
 ∃(s:ByteArray) (st' en':Nat) (a:Int) (er':Nat),e=.returned (.string s)∧s.size≤t.size∧WS w' b t st' en' a er'∧Fr1 b w w'∧fe er' (fin ((bs t).drop en'))=fe er (Xd9 ((bs t).drop en))
theorem Yib {t:ByteArray}{en:Nat}(h:t.size≤en):fin ((bs t).drop en)=0:=by
 unfold fin;rw[List.drop_of_length_le (by rw[Xaa];exact h),qP rfl]
theorem Xqb (n:Nat):fe n 0=n:=by unfold fe;split<;>simp_all
theorem Ydd (w:World)(b:Nat)(t:ByteArray)(st en:Nat)(at_:Int)(er:Nat)(h:WS w b t st en at_ er)(hb9:9≤b)(ht:t.size≤1000000):
    Calls prog 197 #[.pointer (some ⟨b,0,none⟩)] w (Xu6 w b t en er):=by
 have hc0:w.cell? ⟨b,0,none⟩=some (.string t):=cell_of_row w b 0 _ _ _ h.1
 have hc2:w.cell? ⟨b,2,none⟩=some (.int .i64 (en:Int)):=cell_of_row w b 2 _ _ _ h.1
 have hc4:w.cell? ⟨b,4,none⟩=some (.int .i64 (er:Int)):=cell_of_row w b 4 _ _ _ h.1
 have hen:=h.2
 have H:=Hd h;have LEN:=Hd (Xaa t)
 clear h
 by_cases h0:er=0
 ·subst h0
  have hc4':w.cell? ⟨b,4,none⟩=some (.int .i64 0):=hc4
  clear hc4
  by_cases hq:en=t.size
  ·have hz:((en:Int)==(t.size:Int))=true:=by rw[hq];simp
   have LAW:Hid (fe 0 (fin ((bs t).drop en))=fe 0 (Xd9 ((bs t).drop en))):=Hd (by
    rw[List.drop_of_length_le (by rw[LEN.o];omega)];rfl)
   clear hq
   go_enter func197,ntmps197
   go_upto_region 1 with fail
   go_quiet (fail)
   go_wp2_with fail
   go_ret
   exact⟨⟨#[]⟩,st,en,at_,0,rfl,Nat.zero_le _,H.o.below (Dr.below ⟨nq,rfl⟩),Dr.fr ⟨nq,rfl⟩,LAW.o⟩
  ·have hlt:en<t.size:=by omega
   have hz:((en:Int)==(t.size:Int))=false:=Xaj (by omega)
   obtain⟨t1,ht1⟩:=xq (t.extract (en+1) t.size)
   have hts:t1.size=t.size-(en+1):=by rw[ht1,ByteArray.size_extract];omega
   have hb1:bs t1=(bs t).drop (en+1):=by rw[ht1,Xbz,List.take_of_length_le (by rw[LEN.o];exact zL _)]
   have HT:=Hd ht1
   have LAW:Hid (∀m,(m=if bs t1=[] then 4 else Xnf (bs t1))→fe m (fin ((bs t).drop t.size))=fe 0 (Xd9 ((bs t).drop en))):=Hd (fun m hm=>by
    rw[Yib (zL _),Xqb,show(bs t).drop en=(bs t)[en]'(by rw[LEN.o];exact hlt)::(bs t).drop (en+1) from List.drop_eq_getElem_cons _,hm,hb1]
    rfl)
   have htt:t1.size≤t.size:=by omega
   clear hq hts hb1 ht1
   go_enter func197,ntmps197
   go_upto_region 1 with fail
   go_quiet (fail)
   obtain⟨w0,hw0⟩:=xq (w.drewN nq)
   have H0:Hid (WS w0 b t st en at_ 0):=Hd (by rw[hw0];exact H.o.below (Dr.below ⟨nq,rfl⟩))
   have F0:Hid (Fr1 b w w0):=Hd (by rw[hw0];exact Dr.fr ⟨nq,rfl⟩)
   rw[←hw0]
   clear hw0 hc0 hc2 hc4' H
   have hc0:w0.cell? ⟨b,0,none⟩=some (.string t):=cell_of_row w0 b 0 _ _ _ H0.o.1
   have hc1:w0.cell? ⟨b,1,none⟩=some (.int .i64 (st:Int)):=cell_of_row w0 b 1 _ _ _ H0.o.1
   have hc2:w0.cell? ⟨b,2,none⟩=some (.int .i64 (en:Int)):=cell_of_row w0 b 2 _ _ _ H0.o.1
   have hf1:w0.frozen? ⟨b,1,none⟩=false:=by have:=H0.o.1;simp[World.frozen?,this]
   have hf2:w0.frozen? ⟨b,2,none⟩=false:=by have:=H0.o.1;simp[World.frozen?,this]
   go_upto_region 3 with fail
   go_region
   obtain⟨w1,hw1⟩:=xq (((w0.setCell ⟨b,1,none⟩ (.int .i64 ((en:Int)+1))).setCell ⟨b,2,none⟩ (.int .i64 (t.size:Int))).drew)
   have H1:Hid (WS w1 b t (en+1) t.size at_ 0):=Hd (by rw[hw1];exact⟨Xd8 (Xd8 H0.o.1 1 _) 2 _,zL _⟩)
   have F1:Hid (Fr1 b w w1):=Hd (by rw[hw1];exact((F0.o.trans (Fr1.setC _)).trans (Fr1.setC _)).trans (Dr.fr ⟨1,rfl⟩))
   rw[←hw1]
   clear hw1 hc0 hc1 hc2 hf1 hf2
   have hc0:w1.cell? ⟨b,0,none⟩=some (.string t):=cell_of_row w1 b 0 _ _ _ H1.o.1
   have hc1:w1.cell? ⟨b,1,none⟩=some (.int .i64 ((en:Int)+1)):=cell_of_row w1 b 1 _ _ _ H1.o.1
   go_upto_region 4 with fail
   go_quiet (fail)
   obtain⟨w2,hw2⟩:=xq (w1.drewN nq)
   have H2:Hid (WS w2 b t (en+1) t.size at_ 0):=Hd (by rw[hw2];exact H1.o.below (Dr.below ⟨nq,rfl⟩))
   have F2:Hid (Fr1 b w w2):=Hd (by rw[hw2];exact F1.o.trans (Dr.fr ⟨nq,rfl⟩))
   rw[←hw2]
   clear hw2 hc0 hc1
   have hc1:w2.cell? ⟨b,1,none⟩=some (.int .i64 ((en:Int)+1)):=cell_of_row w2 b 1 _ _ _ H2.o.1
   go_upto_region 5 with fail
   rw[show t.extract (en+1) t.size=t1 from HT.o.symm]
   clear HT
   have CT:Hid (∀w,Calls prog 242 #[.string t1] w fun e w''=>e=.returned (.int .i64 (Xnf (bs t1):Nat))∧w''=w):=Hd (fun w=>(Ya4 t1 w (by omega)).mono fun e w' h=>⟨h.1,h.2.symm⟩)
   obtain⟨m,hm⟩:=xq (Xnf (bs t1))
   rw[←hm] at CT LAW
   clear hm
   have TAIL:Hid (∀(wX:World) (a:Int) (n:Nat),WS wX b t (en+1) t.size a n→Fr1 b w wX→fe n m=(if bs t1=[] then 4 else m)→∃wY,wY=wX.drew∧wY.cell? ⟨b,1,none⟩=some (.int .i64 ((en:Int)+1))∧Calls prog 142 #[.pointer (some ⟨b,0,none⟩),.int .i64 ((en:Int)+1),.int .i64 (m:Int)] wY (fun e w'=>(∃v,e=.returned v)∧Xu6 w b t en 0 (.returned (.string t1)) w')):=Hd (fun wX a n hw hf hfe=>by
    have hb:Bw wX wX.drew:=Dr.below ⟨1,rfl⟩
    have hw2:=hw.below hb
    refine⟨_,rfl,cell_of_row wX.drew b 1 _ _ _ hw2.1,(Xb8 wX.drew b t (en+1) t.size a n hw2 _ m).mono ?_⟩
    rintro e w' ⟨⟨v,rfl⟩,⟨a',h3⟩,f3⟩
    exact⟨⟨_,rfl⟩,t1,en+1,t.size,a',_,rfl,htt,h3,(hf.trans (Fr1.of_below hb)).trans f3,LAW.o _ hfe⟩)
   by_cases he:t1=⟨#[]⟩
   ·have qe:t1.toList.isEmpty=true:=by rw[he,ByteArray.toList_eq];rfl
    have FL:=Hd (Xb8 w2 b t (en+1) t.size at_ 0 H2.o ((en:Int)+1) 4)
    have BE:Hid (bs t1=[]):=Hd (by rw[he];rfl)
    clear he
    go_upto_region 6 with fail
    go_wp2_with fail
    refine FL.o.mono ?_
    rintro e w3 ⟨⟨v,rfl⟩,⟨a',h3⟩,f3⟩
    obtain⟨wY,hY,hd1,FZ⟩:=TAIL.o w3 a' 4 h3 (F2.o.trans f3) (by rw[qP BE.o];rfl)
    have FZ:=Hd FZ
    clear FL f3 hc1 h3 TAIL LAW
    go_upto_region 7 with fail
    refine wp_region_still_tail 7 (by kernel_rfl) (by kernel_rfl) ?_
    simp only[List.take_succ_cons,List.take_zero,List.drop_succ_cons,List.drop_zero]
    change wpStill _ _ w3.drew (fun a'=>wpList _ _ _ _ a' w3.drew) _ _
    rw[←hY]
    clear hY
    repeat still_step
    still_call (CT.o _)
    refine wpStill_nil ?_
    go_wp2_with fail
    refine FZ.o.mono ?_
    rintro e w4 ⟨⟨v,rfl⟩,hp⟩
    have HP:=Hd hp
    clear hp
    go_wp2_with fail
    go_ret
    exact HP.o
   ·have qe:t1.toList.isEmpty=false:=Xd2 (fun h=>he (ByteArray.ext (Array.eq_empty_of_size_eq_zero h)))
    obtain⟨wY,hY,hd1,FZ⟩:=TAIL.o w2 at_ 0 H2.o F2.o (by rw[qN (fun h=>he (by
     have:t1.size=0:=by rw[←Xaa,h];rfl
     exact ByteArray.ext (Array.eq_empty_of_size_eq_zero this)))];rfl)
    have FZ:=Hd FZ
    clear TAIL LAW hc1 he
    go_upto_region 7 with fail
    refine wp_region_still_tail 7 (by kernel_rfl) (by kernel_rfl) ?_
    simp only[List.take_succ_cons,List.take_zero,List.drop_succ_cons,List.drop_zero]
    change wpStill _ _ w2.drew (fun a'=>wpList _ _ _ _ a' w2.drew) _ _
    rw[←hY]
    clear hY
    repeat still_step
    still_call (CT.o _)
    refine wpStill_nil ?_
    go_wp2_with fail
    refine FZ.o.mono ?_
    rintro e w4 ⟨⟨v,rfl⟩,hp⟩
    have HP:=Hd hp
    clear hp
    go_wp2_with fail
    go_ret
    exact HP.o
 ·have hz:((er:Int)==0)=false:=Xaj (by omega)
  have hz2:((er:Int) !=0)=true:=by simp[bne,hz]
  have LAW:Hid (fe er (fin ((bs t).drop en))=fe er (Xd9 ((bs t).drop en))):=Hd (by unfold fe;rw[qP h0,qP h0])
  clear h0
  go_enter func197,ntmps197
  go_upto_region 1 with fail
  go_quiet (fail)
  go_wp2_with fail
  go_ret
  exact⟨⟨#[]⟩,st,en,at_,er,rfl,Nat.zero_le _,H.o.below (Dr.below ⟨nq,rfl⟩),Dr.fr ⟨nq,rfl⟩,LAW.o⟩
def pa (l:List Nat)(j:Nat):List Nat:=(List.range 16).map fun k=>if 2*k+1<j then 16*hv (l.getD (2*k) 0)+hv (l.getD (2*k+1) 0) else if 2*k<j then hv (l.getD (2*k) 0) else 0
theorem Xi6 (l:List Nat)(j:Nat):(pa l j).length=16:=by simp[pa]
theorem Xro {l:List Nat}{j k:Nat}(hk:k<16):(pa l j)[k]?=some (if 2*k+1<j then 16*hv (l.getD (2*k) 0)+hv (l.getD (2*k+1) 0) else if 2*k<j then hv (l.getD (2*k) 0) else 0):=by
 simp[pa,hk]
theorem Xz6 (c:Nat):hv c<16:=by
 unfold hv
 cases h:hvl c with
 |none=>decide
 |some x=>unfold hvl at h;split at h<;>(try split at h)<;>simp at h<;>simp<;>omega
theorem Yhk (l:List Nat):pa l 0=List.replicate 16 0:=by
 apply List.ext_getElem?
 intro k
 by_cases hk:k<16
 ·rw[Xro hk,qN (by omega),qN (by omega),List.getElem?_replicate,qP hk]
 ·rw[List.getElem?_eq_none (by rw[Xi6];omega),List.getElem?_eq_none (by simp;omega)]
theorem Yhl {l:List Nat}{j k v:Nat}(hk:k=j/2)(hj:j<32)(hv':(pa l j)[k]?=some v):pa l (j+1)=(pa l j).set k (16*v%256+hv (l.getD j 0))∧v<16:=by
 rw[Xro (by omega)] at hv'
 have hv2:=Option.some.inj hv'
 rw[qN (by omega)] at hv2
 have h16:v<16:=by
  rw[←hv2];split
  ·exact Xz6 _
  ·decide
 refine⟨?_,h16⟩
 apply List.ext_getElem?
 intro n
 by_cases hn:n<16
 ·rw[List.getElem?_set]
  by_cases e:k=n
  ·subst e
   rw[qP rfl,qP (by rw[Xi6];exact hn),Xro hn]
   by_cases hp:j=2*k
   ·rw[qN (by omega),qP (by omega)]
    rw[qN (by omega)] at hv2
    rw[←hv2,←hp];simp
   ·have e2:j=2*k+1:=by omega
    rw[qP (by omega)]
    rw[qP (by omega)] at hv2
    rw[hv2,Nat.mod_eq_of_lt (by omega),e2]
  ·rw[qN e,Xro hn,Xro hn]
   by_cases c1:2*n+1<j
   ·rw[qP (by omega),qP c1]
   ·rw[qN (by omega),qN c1]
    by_cases c2:2*n<j
    ·rw[qP (by omega),qP c2]
    ·rw[qN (by omega),qN c2]
 ·rw[List.getElem?_eq_none (by rw[Xi6];omega),List.getElem?_eq_none (by rw[List.length_set,Xi6];omega)]
theorem Ygz:∀(n:Nat) (l:List Nat) (k:Nat),l.length=2*n→k<n→(uh l)[k]?=some (16*hv (l.getD (2*k) 0)+hv (l.getD (2*k+1) 0))
 |n+1,a::b::t,0,h,hk=>by simp[uh]
 |n+1,a::b::t,k+1,h,hk=>by
  simp only[uh,List.getElem?_cons_succ]
  rw[Ygz n t k (by simp at h;omega) (by omega)]
  rw[show 2*(k+1)=2*k+1+1 by omega]
  simp
 |n+1,[_],_,h,_=>by simp at h;omega
 |n+1,[],_,h,_=>by simp at h
theorem Yj8 {l:List Nat}(h:l.length=32):pa l 32=uh l:=by
 apply List.ext_getElem?
 intro k
 by_cases hk:k<16
 ·rw[Xro hk,Ygz 16 l k (by omega) hk,qP (by omega)]
 ·rw[List.getElem?_eq_none (by rw[Xi6];omega),List.getElem?_eq_none (by rw[Xj8 16 l (by omega)];omega)]
theorem Xu3 {l:List Nat}(h:l.length=32)(hd:l.all hdB=true):Xe2 l=some (uh l):=by
 unfold Xe2;rw[qP h];exact Xhm 16 l (by omega) hd
theorem Xoq {l:List Nat}(h:l.length≠32):Xe2 l=none:=by unfold Xe2;rw[qN h]
theorem Ybp {l:List Nat}{j:Nat}(hj:j<l.length)(hd:hdB (l.getD j 0)=false):Xe2 l=none:=by
 unfold Xe2
 split
 ·refine Xfo _ ?_
  rw[List.all_eq_false]
  refine⟨l[j],zG hj,?_⟩
  rw[List.getD_eq_getElem?_getD,List.getElem?_eq_getElem hj,Option.getD_some] at hd
  rw[hd];decide
 ·rfl
theorem Xkg:(prog.info? 35).map (·.size)=some 16:=by kernel_rfl
structure AuOk (l:List Nat):Prop where
 len:l.length=16
 lt:∀x∈l,x<256
theorem Xu2 {l id:List Nat}(h:Xe2 l=some id):AuOk id:=by
 unfold Xe2 at h
 split at h
 ·rename_i h32
  by_cases hd:l.all hdB=true
  ·rw[Xhm 16 l (by omega) hd] at h;cases h
   exact⟨Xj8 16 l (by omega),Ygy l hd⟩
  ·rw[Xfo l (by simpa using hd)] at h;cases h
 ·cases h
theorem Xsu {l:List Nat}(h:AuOk l):Cl 16 (idA l):=⟨by rw[Xag,h.len],Xek _⟩
def Xdm:List Nat:=List.replicate 16 0
theorem Xfm:AuOk Xdm:=⟨by simp[Xdm],fun x hx=>by simp[Xdm] at hx;omega⟩
def Xna (l:List Nat)(w:World)(e:Ending)(w':World):Prop:=
 ∃(a er:Int),(match Xe2 l with
  |some id=>e=.returned (.tuple #[.agg (idA id),.int .i64 a,.int .i64 0])
  |none=>e=.returned (.tuple #[.agg (idA Xdm),.int .i64 a,.int .i64 er])∧er≠0)∧Bw w w'
theorem Xr6 {c:Nat}(h:hdB c=false):hvz c=-1:=by
 unfold hdB at h;unfold hvz
 cases hc:hvl c with
 |none=>rfl
 |some x=>rw[hc] at h;simp at h
theorem Xn9 {c:Nat}(h:hdB c=true):hvz c=(hv c:Int):=by
 unfold hdB at h;unfold hvz hv
 cases hc:hvl c with
 |none=>rw[hc] at h;simp at h
 |some x=>rfl
theorem Xr5 (l:List Nat)(k v:Nat):(idA l).setIfInBounds k (U v)=idA (l.set k v):=by
 unfold idA
 rw[List.setIfInBounds_toArray,List.map_set]
theorem Xkp (s:ByteArray)(w:World)(hs:s.size≤1000000):
    Calls prog 98 #[.string s] w (Xna (bs s) w):=by
 obtain⟨zs,hzs⟩:=xq (idA Xdm)
 have LEN:=Hd (Xaa s)
 have HZS:=Hd hzs
 have ZCL:Hid (Cl 16 zs):=Hd (by rw[hzs];exact Xsu Xfm)
 have BU:Hid (∀w,(Instr.build 35 #[]).run prog w=.ok (.agg zs) w):=Hd (fun w=>by rw[hzs];kernel_rfl)
 have START:Hid (w.alloc (.cells (Array.replicate 16 (.int .u8 0)) 35)=w.alloc (.cells zs 35)):=Hd (by rw[hzs];rfl)
 have FIN:Hid (∀(w4:World) (old cs:Array Value),Cl 16 cs→old.size=16→w4.heap[w.heap.size]?=some (.cells old 35 (0,0))→Bw w w4→
     Sv 35 ⟨w.heap.size,0,none⟩ (.agg cs) w4 (w4.setRow w.heap.size cs)∧
     (∀tmps:Array Value,tmps.getD 2 undef=.pointer (some ⟨w.heap.size,0,none⟩)→(results Tryz.f98 tmps).run prog (w4.setRow w.heap.size cs)=.ok (.tuple #[.agg cs,tmps.getD 3 undef,tmps.getD 4 undef]) (w4.setRow w.heap.size cs))∧
     Bw w (w4.setRow w.heap.size cs)):=Hd (fun w4 old cs hcl ho hg hb=>
  ⟨run_storeVar_row (P:=prog) w4 w.heap.size _ 35 old cs hg (by rw[hcl.1];exact Xkg) (by rw[hcl.1,ho]) hcl.2,
   fun tmps h2=>Xat results98 tmps _ w.heap.size _ _ _ _ h2 (setRow_heap w4 w.heap.size old cs _ _ hg) underlying35 rfl (by rw[hcl.1];exact Xkg),
   below_setRow hb (zL _) cs⟩)
 have NO:Hid (Xe2 (bs s)=none→∀a er:Int,er≠0→∀w',Bw w w'→Xna (bs s) w (.returned (.tuple #[.agg zs,.int .i64 a,.int .i64 er])) w'):=Hd (fun h a er he w' hb=>⟨a,er,by rw[h,HZS.o];exact⟨rfl,he⟩,hb⟩)
 obtain⟨mn,hmn⟩:∃mn:Nat,mn=min s.size 32:=⟨_,rfl⟩
 have hm1:mn≤s.size:=by omega
 have hm2:mn≤32:=by omega
 have HMN:=Hd hmn
 have mi:min (s.size:Int) 32=(mn:Int):=by omega
 have PZ:Hid (zs=idA (pa (bs s) 0)):=Hd (by rw[hzs,Yhk];rfl)
 clear hzs hmn
 go_enter func98,ntmps98
 go_wp2_with fail
 go_loopg [5,6,10] mn (fun k x y i wr=>∃j:Nat,j≤mn∧k=mn-j∧i=.int .i64 (j:Int)∧Hid (∀q,q<j→hdB ((bs s).getD q 0)=true)∧Hid (wr.heap[w.heap.size]?=some (.cells (idA (pa (bs s) j)) 35 (0,0)))∧Hid (Bw w wr))
 case atStart=>exact⟨0,by omega,rfl,rfl,Hd (fun q hq=>by omega),Hd (by have h:=zN w (.cells zs 35);rw[←START.o] at h;rw[←PZ.o];exact h),Hd ((zR _ _).alloc (zL _) _)⟩
 case round=>
  obtain⟨j,hj,rfl,rfl,hg,hcell,hbel⟩:=hrel
  by_cases hlt:j<mn
  ·obtain⟨c,hc⟩:=xq ((bs s).getD j 0)
   have hc2:c<256:=by rw[hc];exact Xba s j
   have xn:∀w,(Instr.index 9 (.string s) (.int .i64 (j:Int))).run prog w=.ok (.int .u8 (c:Int)) w:=fun w=>by rw[Xa5 9 underlying9 s .i64 j j rfl (by omega),hc]
   have IX:=Hd (Xzv wr c hc2)
   by_cases hd:hdB c=true
   ·rw[Xn9 hd] at IX
    obtain⟨y,hy⟩:=xq (hv c)
    have hy16:y<16:=by rw[hy];exact Xz6 c
    rw[←hy] at IX
    obtain⟨k,hk⟩:=xq (j/2)
    have hk16:k<16:=by omega
    obtain⟨v,hv'⟩:∃v,(pa (bs s) j)[k]?=some v:=⟨_,Xro hk16⟩
    obtain⟨hst,hv16⟩:=Yhl hk (by omega) hv'
    rw[←hc,←hy] at hst
    have hck:wr.cell? ⟨w.heap.size,k,none⟩=some (.int .u8 (v:Int)):=by rw[cell_of_row wr _ k _ _ _ hcell.o];unfold idA;rw[List.getElem?_toArray,List.getElem?_map,hv'];rfl
    have hfk:wr.frozen? ⟨w.heap.size,k,none⟩=false:=by have:=hcell.o;simp[World.frozen?,this]
    obtain⟨z,hz⟩:=xq (16*v%256+y)
    rw[←hz] at hst
    have s1:IntKind.u8.wrap ((v:Int)*16)=(v:Int)*16:=by rw[IntKind.wrap_u8];omega
    have s3:IntKind.u8.wrap (y:Int)=(y:Int):=by rw[IntKind.wrap_u8];omega
    have s2:Go.bits .or .u8 ((v:Int)*16) (y:Int)=(z:Int):=by
     rw[bits_join .u8 8 (by decide) wraps_u8 4 _ _ (by omega) (by omega) (by omega) (by omega) (by omega) (by omega)];omega
    have hdv:Int.tdiv (j:Int) 2=(k:Int):=by rw[Int.tdiv_eq_ediv_of_nonneg (by omega)];omega
    have HW:Hid ((wr.setCell ⟨w.heap.size,k,none⟩ (.int .u8 (z:Int))).heap[w.heap.size]?=some (.cells (idA (pa (bs s) (j+1))) 35 (0,0))):=Hd (by rw[hst,←Xr5];exact Xd8 hcell.o k _)
    have BW:Hid (Bw w (wr.setCell ⟨w.heap.size,k,none⟩ (.int .u8 (z:Int)))):=Hd (hbel.o.setCell (p:=⟨w.heap.size,k,none⟩) (zL _) _)
    have G2:Hid (∀q,q<j+1→hdB ((bs s).getD q 0)=true):=Hd (fun q hq=>by
     by_cases e:q=j
     ·rw[e,←hc];exact hd
     ·exact hg.o q (by omega))
    have HK:=Hd hk
    clear hd hc hy hv' hst hz hg hcell hbel FIN NO BU START HK hk PZ
    go_wp2_with (go_at_call 147;refine IX.o.mono ?_;rintro e w' ⟨rfl,rfl⟩)
    go_roundg (mn-(j+1))
    case measure=>omega
    case rel=>exact⟨j+1,by omega,rfl,by go_num,G2,HW,BW⟩
   ·have hd':hdB c=false:=by simpa using hd
    rw[Xr6 hd'] at IX
    have NN:=Hd (NO.o (Ybp (j:=j) (by rw[LEN.o];omega) (by rw[←hc];exact hd')))
    obtain⟨ST,RES,BB⟩:=FIN.o wr _ zs ZCL.o (by rw[Xag,Xi6]) hcell.o hbel.o
    have ST:=Hd ST;have RES:=Hd RES;have BB:=Hd BB
    clear hd hd' hc FIN NO
    go_wp2_with (first
     |(go_at_call 147;refine IX.o.mono ?_;rintro e w' ⟨rfl,rfl⟩)
     |((with_reducible refine Xaf 35 rfl rfl ?_);refine⟨_,BU.o _,?_⟩)
     |((with_reducible refine Xab 35 rfl _ _ rfl ?_);refine⟨_,_,_,rfl,rfl,ST.o,?_⟩))
    exact zP (RES.o _ rfl) rfl (NN.o _ 6 (by decide) _ BB.o)
  ·obtain rfl:j=mn:=by omega
   by_cases h1:s.size<32
   ·have NN:=Hd (NO.o (Xoq (by rw[LEN.o];omega)))
    obtain⟨ST,RES,BB⟩:=FIN.o wr _ zs ZCL.o (by rw[Xag,Xi6]) hcell.o hbel.o
    have ST:=Hd ST;have RES:=Hd RES;have BB:=Hd BB
    clear FIN NO
    go_wp2_with (first
     |((with_reducible refine Xaf 35 rfl rfl ?_);refine⟨_,BU.o _,?_⟩)
     |((with_reducible refine Xab 35 rfl _ _ rfl ?_);refine⟨_,_,_,rfl,rfl,ST.o,?_⟩))
    exact zP (RES.o _ rfl) rfl (NN.o _ 4 (by decide) _ BB.o)
   ·by_cases h2:32<s.size
    ·have NN:=Hd (NO.o (Xoq (by rw[LEN.o];omega)))
     obtain⟨ST,RES,BB⟩:=FIN.o wr _ zs ZCL.o (by rw[Xag,Xi6]) hcell.o hbel.o
     have ST:=Hd ST;have RES:=Hd RES;have BB:=Hd BB
     clear FIN NO
     go_wp2_with (first
      |((with_reducible refine Xaf 35 rfl rfl ?_);refine⟨_,BU.o _,?_⟩)
      |((with_reducible refine Xab 35 rfl _ _ rfl ?_);refine⟨_,_,_,rfl,rfl,ST.o,?_⟩))
     exact zP (RES.o _ rfl) rfl (NN.o _ 5 (by decide) _ BB.o)
    ·have h32:s.size=32:=by omega
     have hj32:j=32:=by have:=HMN.o;omega
     have GG:(bs s).all hdB=true:=Xhh (fun q hq=>hg.o q (by rw[LEN.o] at hq;omega))
     have YES:=Hd (Xu3 (by rw[LEN.o];exact h32) GG)
     have OK:=Xu2 YES.o
     have hcell':=hcell.o
     rw[hj32,Yj8 (by rw[LEN.o];exact h32)] at hcell'
     obtain⟨cs,hcs⟩:=xq (idA (uh (bs s)))
     have CL:Cl 16 cs:=by rw[hcs];exact Xsu OK
     rw[←hcs] at hcell'
     obtain⟨ST,RES,BB⟩:=FIN.o wr _ cs CL CL.1 hcell' hbel.o
     have ST:=Hd ST;have RES:=Hd RES;have BB:=Hd BB
     have LD:=Hd (Xal wr w.heap.size 16 _ _ cs _ _ hcell' rfl underlying35 Xkg CL.1)
     have HCS:=Hd hcs
     clear FIN NO OK hcell' CL GG hcs hj32 hcell hbel hg BU START
     go_upto_region 13 with fail
     refine wp_region_list ?_
     simp only[]
     refine Xac 35 rfl _ rfl ⟨_,_,rfl,LD.o,?_⟩
     go_wp2_with ((with_reducible refine Xab 35 rfl _ _ rfl ?_);refine⟨_,_,_,rfl,rfl,ST.o,?_⟩)
     exact zP (RES.o _ rfl) rfl (by unfold Xna;rw[YES.o];simp only[];rw[←HCS.o];exact⟨_,0,rfl,BB.o⟩)
def Ybb (l m:List Nat):Int:=Lib.compareBytes (Lib.bytesOf (l.map fun x=>((x:Nat):Int))) (Lib.bytesOf (m.map fun x=>((x:Nat):Int)))
theorem Yjv {a b:Nat}(ha:a<256)(hb:b<256):(UInt8.ofNat a<UInt8.ofNat b)↔a<b:=by
 rw[UInt8.lt_iff_toNat_lt]
 simp[Nat.mod_eq_of_lt ha,Nat.mod_eq_of_lt hb]
theorem Yba:∀(l m:List Nat),(∀x∈l,x<256)→(∀x∈m,x<256)→decide (0≤Ybb l m)=!ltL l m
 |[],[],_,_=>by decide
 |[],y::m,_,_=>by simp[Ybb,Lib.bytesOf,Lib.compareBytes,ltL]
 |x::l,[],_,_=>by simp[Ybb,Lib.bytesOf,Lib.compareBytes,ltL]
 |x::l,y::m,hl,hm=>by
  have ih:=Yba l m (fun z hz=>hl z (List.mem_cons_of_mem _ hz)) (fun z hz=>hm z (List.mem_cons_of_mem _ hz))
  have hx:=hl x (List.mem_cons_self ..)
  have hy:=hm y (List.mem_cons_self ..)
  have e:Ybb (x::l) (y::m)=if x<y then -1 else if y<x then 1 else Ybb l m:=by
   unfold Ybb
   simp only[Lib.bytesOf,List.map_cons,Lib.compareBytes,Int.toNat_natCast]
   simp only[Yjv hx hy,Yjv hy hx]
  rw[e]
  by_cases h1:x<y
  ·rw[qP h1];simp[ltL,h1]
  ·rw[qN h1]
   by_cases h2:y<x
   ·rw[qP h2];simp[ltL];omega
   ·rw[qN h2,ih]
    obtain rfl:x=y:=by omega
    simp[ltL]
theorem Xfq (w:World){P:Program}(b off cap:Nat)(l:List Nat)(h:∀j u,(idA l)[j]?=some u→w.cell? ⟨b,off+j,none⟩=some u):
    (Extern.Bytes.bytesOf (.slice (some ⟨b,off,none⟩) l.length cap)).run P w=.ok ⟨(Lib.bytesOf (l.map fun x=>((x:Nat):Int))).toArray⟩ w:=by
 have:=Lib.run_loadBytesX (P:=P) w (l.map fun x=>((x:Nat):Int)) ⟨b,off,none⟩ .empty (by
  intro j x hx
  have:=h j (.int .u8 x) (by unfold idA;rw[List.getElem?_toArray,List.getElem?_map];rw[List.getElem?_map] at hx;cases hq:l[j]? with
   |none=>rw[hq] at hx;cases hx
   |some y=>rw[hq] at hx;simp at hx;subst hx;rfl)
  rw[←this]
  unfold Addr.add
  by_cases hj:j=0
  ·subst hj;rfl
  ·simp[hj])
 rw[List.length_map] at this
 unfold Extern.Bytes.bytesOf
 rw[this,show ByteArray.empty.data=#[] from rfl,Array.empty_append]
theorem Yg7 (w:World){P:Program}(b o c b' o' c':Nat)(l m:List Nat)(h:∀j u,(idA l)[j]?=some u→w.cell? ⟨b,o+j,none⟩=some u)(h':∀j u,(idA m)[j]?=some u→w.cell? ⟨b',o'+j,none⟩=some u):
    (Extern.BytealgCompare.compare #[.slice (some ⟨b,o,none⟩) l.length c,.slice (some ⟨b',o',none⟩) m.length c']).run P w=.ok (.int .i64 (Ybb l m)) w:=by
 change Sem.run P (do pure (goInt (Extern.BytealgCompare.cmp (←Extern.Bytes.bytesOf (.slice (some ⟨b,o,none⟩) l.length c)) (←Extern.Bytes.bytesOf (.slice (some ⟨b',o',none⟩) m.length c'))))) w=_
 simp only[Sem.run_bind,Sem.run_pure,Xfq w b o c l h,Xfq w b' o' c' m h',Result.andThen]
 rw[Lib.cmp_eq]
 rfl
theorem Xss (w:World)(b o c b' o' c':Nat)(l m:List Nat)(h:∀j u,(idA l)[j]?=some u→w.cell? ⟨b,o+j,none⟩=some u)(h':∀j u,(idA m)[j]?=some u→w.cell? ⟨b',o'+j,none⟩=some u):
    Ry 270 #[.slice (some ⟨b,o,none⟩) l.length c,.slice (some ⟨b',o',none⟩) m.length c'] w (.int .i64 (Ybb l m)):=by
 have R:=Hd (Yg7 (P:=prog) w b o c b' o' c' l m h h')
 obtain⟨z,hz⟩:=xq (Ybb l m)
 rw[←hz] at R⊢
 clear h h' hz
 go_enter func270,ntmps270
 go_wp2_with fail
 rw[run_callFunc_extern func280 (by kernel_rfl) (by kernel_rfl) (by kernel_rfl) (e:=Extern.BytealgCompare.compare) (by kernel_rfl),R.o]
 simp only[Result.andThen]
 rw[Oper.upon_value]
 go_wp2_with fail
 go_ret
 exact⟨rfl,rfl⟩
def Yjl (w:World)(a:Option Addr)(ids:List (List Nat)):Prop:=
 ids≠[]→∃b off,a=some ⟨b,off,none⟩∧∀j (h:j<ids.length) k u,(idA ids[j])[k]?=some u→w.cell? ⟨b,off+j*16+k,none⟩=some u
theorem Xzz:∀(l:List (List Nat)) (i:Nat) (h:i+1<l.length),ltL l[i] l[i+1]=false→Xmy l=false
 |a::b::t,0,h,hl=>by simp at hl;simp[Xmy,hl]
 |a::b::t,i+1,h,hl=>by
  have:=Xzz (b::t) i (by simpa using h) (by simpa using hl)
  simp[Xmy,this]
 |[_],_,h,_=>by simp at h
 |[],_,h,_=>by simp at h
theorem Xr3:∀(l:List (List Nat)),(∀i (h:i+1<l.length),ltL l[i] l[i+1]=true)→Xmy l=true
 |a::b::t,h=>by
  have h0:=h 0 (by simp)
  have:=Xr3 (b::t) (fun i hi=>by have:=h (i+1) (by simpa using hi);simpa using this)
  simp at h0
  simp[Xmy,h0,this]
 |[_],_=>rfl
 |[],_=>rfl
theorem Xz0 (w:World)(a:Option Addr)(cap:Nat)(ids:List (List Nat))(hn:ids.length≤1000000)(hA:Yjl w a ids)(hok:∀x∈ids,AuOk x):
    Rz 241 #[.slice a ids.length cap] w (.bool (Xmy ids)):=by
 obtain⟨n,hn'⟩:=xq ids.length
 have HN:=Hd hn'
 rw[←hn'] at hn⊢
 have HA:=Hd hA;have HOK:=Hd hok
 clear hn' hA hok
 go_enter func241,ntmps241
 go_wp2_with fail
 go_loopg [3] n (fun k i wr=>∃j:Nat,(j+1≤n∨j=0)∧k=n-j∧i=.int .i64 ((j:Int)+1)∧Hid (∀q (h:q+1<ids.length),q<j→ltL ids[q] ids[q+1]=true)∧Hid (Dr w wr))
 case atStart=>exact⟨0,.inr rfl,rfl,rfl,Hd (fun q h hq=>by omega),Hd (Dr.refl w)⟩
 case round=>
  obtain⟨j,hj,rfl,rfl,hg,hdr⟩:=hrel
  by_cases hlt:j+1<n
  ·have hl:j+1<ids.length:=by rw[←HN.o];exact hlt
   obtain⟨b,off,rfl,hcells⟩:=HA.o (fun e=>by rw[e] at hl;simp at hl)
   have o1:=HOK.o _ (zG (show j<ids.length by omega))
   have o2:=HOK.o _ (zG hl)
   have CM:Hid (∀q,Calls prog 270 #[.slice (some ⟨b,off+j*16,none⟩) 16 16,.slice (some ⟨b,off+(j+1)*16,none⟩) 16 16] (wr.drewN q) fun e w'=>e=.returned (.int .i64 (Ybb ids[j] ids[j+1]))∧w'=wr.drewN q):=Hd (fun q=>by
    obtain⟨p,hp⟩:=hdr.o
    have:=Xss (wr.drewN q) b (off+j*16) 16 b (off+(j+1)*16) 16 ids[j] ids[j+1] (fun k u hu=>by rw[hp];exact hcells j (by omega) k u hu) (fun k u hu=>by rw[hp];exact hcells (j+1) hl k u hu)
    rw[o1.len,o2.len] at this
    exact this)
   have CL:=Hd (Yba ids[j] ids[j+1] o1.lt o2.lt)
   have NO:=Hd (Xzz ids j hl)
   have G2:Hid (ltL ids[j] ids[j+1]=true→∀q (h:q+1<ids.length),q<j+1→ltL ids[q] ids[q+1]=true):=Hd (fun ht q h hq=>by
    by_cases e:q=j
    ·subst e;exact ht
    ·exact hg.o q h (by omega))
   obtain⟨z,hz⟩:=xq (Ybb ids[j] ids[j+1])
   obtain⟨r,hr⟩:=xq (ltL ids[j] ids[j+1])
   rw[←hz] at CM CL
   rw[←hr] at CL NO G2
   have w1:IntKind.i64.wrap ((j:Int)+1-1)=(j:Int):=by rw[show(j:Int)+1-1=(j:Int) by omega];exact IntWalk.i64_in _ (by omega)
   have w2:IntKind.i64.wrap ((j:Int)+1+1)=(j:Int)+1+1:=IntWalk.i64_in _ (by omega)
   have p0:(0:Int)≤(j:Int)+1:=by omega
   have p1:(j:Int)+1<(n:Int):=by omega
   have p2:(j:Int)<(n:Int):=by omega
   clear hz hr hcells hl o1 o2 HA HOK hg hj
   have cl:=CL.o
   cases r
   ·have cl':decide (0≤z)=true:=cl
    have NO2:=Hd (NO.o rfl)
    clear NO CL cl G2
    go_wp2_with fail
    go_quiet (first|(go_at_call 270;exact Calls.quiet_of_same (CM.o _)))
    go_wp2_with fail
    go_ret
    obtain⟨p,hp⟩:=hdr.o
    exact⟨by rw[NO2.o];rfl,p+nq,by rw[hp,Xb2]⟩
   ·have cl':decide (0≤z)=false:=cl
    have G3:=Hd (G2.o rfl)
    clear NO CL cl G2
    go_wp2_with fail
    go_quiet (first|(go_at_call 270;exact Calls.quiet_of_same (CM.o _)))
    go_wp2_with fail
    go_roundg (n-(j+1))
    case measure=>omega
    case rel=>exact⟨j+1,.inl hlt,rfl,by go_num,G3,Hd (by obtain⟨p,hp⟩:=hdr.o;exact⟨p+nq,by rw[hp,Xb2]⟩)⟩
  ·have YES:=Hd (Xr3 ids (fun i h=>hg.o i h (by rw[←HN.o] at h;omega)))
   go_wp2_with fail
   go_ret
   exact⟨by rw[YES.o];rfl,hdr.o⟩
def pkC (h:Int)(r:List Nat):Array Value:=(.int .i64 h::r.map U:List Value).toArray
theorem Xfc {h:Int}{r:List Nat}(hr:r.length=16):(pkC h r).size=17:=by simp[pkC,hr]
theorem Yhi (h:Int)(r:List Nat):(pkC h r)[0]?=some (.int .i64 h):=rfl
theorem Xc6:(prog.info? 37).map (·.size)=some 17:=by kernel_rfl
theorem Xru (w:World)(g off:Nat){h:Int}{r:List Nat}(hr:r.length=16)(hp:∀j u,(pkC h r)[j]?=some u→w.cell? ⟨g,off+j,none⟩=some u):
    Ld 37 ⟨g,off,none⟩ w (.agg (pkC h r)):=
 Xah w g off 37 (pkC h r) _ underlying37 rfl (by rw[Xfc hr];exact Xc6) hp
theorem Xgg (w:World)(g:Nat)(t:TypeId)(cs:Array Value)(fr:Nat×Nat)(hg:w.heap[g]?=some (.cells cs t fr)):∀j u,cs[j]?=some u→w.cell? ⟨g,0+j,none⟩=some u:=fun j u hu=>by
 rw[Nat.zero_add,cell_of_row w g j _ _ _ hg];exact hu
theorem Xfb (w:World)(h:Int){r:List Nat}(hr:r.length=16):
    zJ 48 #[.agg (pkC h r)] w (.int .i64 (eIf (!Xav h) 2:Nat)):=by
 have H:=Hd (fun w=>Xwm w h)
 have c0:=Yhi h r
 obtain⟨cs,hcs⟩:=xq (pkC h r)
 obtain⟨m,hm⟩:=xq (eIf (!Xav h) 2)
 rw[←hcs] at c0⊢
 rw[←hm] at H⊢
 clear hcs hm hr
 go_enter func48,ntmps48
 go_wp2_with (go_at_call 93;refine(H.o _).mono ?_;rintro e w' ⟨rfl,rfl⟩)
 go_ret
 exact⟨rfl,(zR _ _).alloc (zL _) _⟩
theorem Xwb (w:World)(h:Int){r:List Nat}(hr:r.length=16):
    zJ 49 #[.agg (pkC h r)] w (.int .i64 (Xbh h)):=by
 have c0:=Yhi h r
 have LD:=Hd (Xru (w.alloc (.cells (pkC h r) 37)) w.heap.size 0 (h:=h) hr (Xgg _ _ _ _ _ (heap_alloc_last w _)))
 have P:=Hd (Xfb (w.alloc (.cells (pkC h r) 37)) h hr)
 obtain⟨cs,hcs⟩:=xq (pkC h r)
 have B0:Hid (Bw w (w.alloc (.cells cs 37))):=Hd ((zR _ _).alloc (zL _) _)
 rw[←hcs] at c0 P LD⊢
 have HB0:Hid ((w.alloc (.cells cs 37)).heap[w.heap.size]?=some (.cells cs 37 (0,0))):=Hd (heap_alloc_last w _)
 clear hcs hr
 by_cases hh:1≤h∧h≤8
 ·have hb:Xav h=true:=by unfold Xav;rw[zT hh.1,zT hh.2];rfl
  have LN:Hid (Xbh h=2^h.toNat):=Hd (by unfold Xbh;rw[qP hb])
  rw[hb] at P
  clear hb
  obtain⟨h1,h2⟩:=hh
  rcases(by omega:h=1∨h=2∨h=3∨h=4∨h=5∨h=6∨h=7∨h=8) with rfl|rfl|rfl|rfl|rfl|rfl|rfl|rfl
  all_goals
   go_enter func49,ntmps49
   go_upto_region 1 with fail
   refine wp_region_list ?_
   simp only[]
   refine Xac 37 rfl _ rfl ⟨_,_,rfl,LD.o,?_⟩
   go_wp2_with fail
   refine P.o.mono ?_
   rintro e w1 ⟨rfl,hb1⟩
   have hz:w1.cell? ⟨w.heap.size,0,none⟩=cs[0]?:=by
    rw[hb1.cell (p:=⟨w.heap.size,0,none⟩) (by simp),cell_of_row _ _ _ _ _ _ HB0.o]
   rw[c0] at hz
   have B1:=bh B0 hb1
   clear hb1
   go_wp2_with fail
   go_ret
   exact⟨by rw[LN.o];rfl,B1.o⟩
 ·have hb:Xav h=false:=by unfold Xav;rw[Bool.eq_false_iff];intro e;simp at e;exact hh e
  have LN:Hid (Xbh h=0):=Hd (by unfold Xbh;rw[qN (by rw[hb];decide)])
  rw[hb] at P
  clear hb hh
  go_enter func49,ntmps49
  go_upto_region 1 with fail
  refine wp_region_list ?_
  simp only[]
  refine Xac 37 rfl _ rfl ⟨_,_,rfl,LD.o,?_⟩
  go_wp2_with fail
  refine P.o.mono ?_
  rintro e w1 ⟨rfl,hb1⟩
  have B1:=bh B0 hb1
  clear hb1
  go_wp2_with fail
  go_ret
  exact⟨by rw[LN.o];rfl,B1.o⟩
def Xfe (s:Nat×Nat×List Nat)(t:Nat):Nat×Nat×List Nat:=if s.2.1+1=6 then(0,0,s.2.2++[al (2*s.1+t)]) else(2*s.1+t,s.2.1+1,s.2.2)
def Xc2 (s:Nat×Nat×List Nat)(g:Nat):Nat→Nat×Nat×List Nat
 |0=>s
 |j+1=>Xfe (Xc2 s g j) (g/2^(7-j)%2)
theorem Xs1 (b c t:Nat)(xs ys:List Nat):Xfe (b,c,xs++ys) t=((Xfe (b,c,ys) t).1,(Xfe (b,c,ys) t).2.1,xs++(Xfe (b,c,ys) t).2.2):=by
 unfold Xfe;split<;>simp_all
theorem Xw7 (b c g:Nat)(xs ys:List Nat)(j:Nat):Xc2 (b,c,xs++ys) g j=((Xc2 (b,c,ys) g j).1,(Xc2 (b,c,ys) g j).2.1,xs++(Xc2 (b,c,ys) g j).2.2):=by
 induction j with
 |zero=>rfl
 |succ j ih=>rw[Xc2,ih,Xs1];rfl
theorem Xqg (f:Nat→Nat)(tt:Nat)(xs:List Nat):∀(k b c:Nat) (ys:List Nat),Xb5 f tt k b c (xs++ys)=((Xb5 f tt k b c ys).1,(Xb5 f tt k b c ys).2.1,xs++(Xb5 f tt k b c ys).2.2):=by
 intro k
 induction k with
 |zero=>intro b c ys;rfl
 |succ k ih=>
  intro b c ys
  by_cases h:c<tt
  ·simp[Xb5,h]
  ·rw[Xe0 _ _ _ _ _ _ h,Xe0 _ _ _ _ _ _ h,List.append_assoc,ih]
theorem Yno:∀c:Fin 3,∀b:Fin 16,b.val<2^(2*c.val)→∀g:Fin 256,Xc2 (b.val,2*c.val,[]) g.val 8=Xbe (b.val,2*c.val,[]) g.val:=by decide+kernel
theorem Xw9 {s:Nat×Nat×List Nat}{g:Nat}(hc:s.2.1<6)(hev:s.2.1%2=0)(hb:s.1<2^s.2.1)(hg:g<256):Xc2 s g 8=Xbe s g:=by
 obtain⟨b,c,xs⟩:=s
 simp only at hc hev hb
 have h1:Xc2 (b,c,xs) g 8=Xc2 (b,c,xs++[]) g 8:=by simp
 have h2:Xbe (b,c,xs) g=Xb5 al 6 16 (b*2^8+g) (c+8) (xs++[]):=by simp[Xbe]
 have hb16:b<16:=Nat.lt_of_lt_of_le hb (by have:2^c≤2^4:=Nat.pow_le_pow_right (by omega) (by omega)
                                           omega)
 have e:c=2*(c/2):=by omega
 have h3:=Yno ⟨c/2,by omega⟩ ⟨b,hb16⟩ (by simp only;rw[←e];exact hb) ⟨g,hg⟩
 simp only[←e] at h3
 rw[h1,h2,Xw7,Xqg,h3]
 rfl
theorem Xw8 {s:Nat×Nat×List Nat}{g:Nat}(hc:s.2.1<6)(hb:s.1<2^s.2.1)(j:Nat):(Xc2 s g j).2.1<6∧(Xc2 s g j).1<2^(Xc2 s g j).2.1∧(Xc2 s g j).2.2.length≤s.2.2.length+j:=by
 induction j with
 |zero=>exact⟨hc,hb,by simp[Xc2]⟩
 |succ j ih=>
  rw[Xc2]
  generalize Xc2 s g j=r at*
  unfold Xfe
  have ht:g/2^(7-j)%2<2:=Nat.mod_lt _ (by omega)
  split
  ·simp;omega
  ·refine⟨by simp;omega,?_,by simp;omega⟩
   simp only[Nat.pow_succ]
   omega
theorem Yet (l:List Nat)(hl:∀x∈l,x<256):(Xgp l).2.1%2=0:=by have:=(Xh4 l hl).2.2;omega
theorem Xjz (l:List Nat)(hl:∀x∈l,x<256):(Xfk l).length=(l.length+2)/3*4:=by
 have h:=Xh4 l hl
 unfold Xfk
 rw[Xt5]
 unfold Xbo
 split
 ·simp only[List.length_append,List.length_singleton];omega
 ·omega
def sx:List Nat→List Nat
 |x::y::z::r=>[x/4,x%4*16+y/16,y%16*4+z/64,z%64]++sx r
 |[x,y]=>[x/4,x%4*16+y/16,y%16*4]
 |[x]=>[x/4,x%4*16]
 |[]=>[]
def dv:List Nat→Nat×List Nat
 |a::b::c::d::r=>((dv r).1,[a*4+b/16,b%16*16+c/4,c%4*64+d]++(dv r).2)
 |[a,b,c]=>(c%4,[a*4+b/16,b%16*16+c/4])
 |[a,b]=>(b%16,[a*4+b/16])
 |[a]=>(a,[])
 |[]=>(0,[])
theorem Yih (xs:List Nat)(x:Nat):Xbe (0,0,xs) x=(x%4,2,xs++[al (x/4)]):=by simp[Xbe,Xb5]
theorem Yld (xs:List Nat)(b y:Nat)(hy:y<256):Xbe (b,2,xs) y=(y%16,4,xs++[al (b*16+y/16)]):=by
 simp[Xbe,Xb5]
 refine⟨by omega,?_⟩
 congr 1;omega
theorem Ym1 (xs:List Nat)(b z:Nat)(hz:z<256):Xbe (b,4,xs) z=(0,0,xs++[al (b*4+z/64),al (z%64)]):=by
 simp[Xbe,Xb5]
 refine⟨by omega,?_,?_⟩
 ·congr 1;omega
 ·congr 1;omega
theorem Yes (n:Nat):∀(l:List Nat),l.length≤n→(∀x∈l,x<256)→∀xs,Xbo (l.foldl Xbe (0,0,xs))=xs++(sx l).map al:=by
 induction n using Nat.strongRecOn with
 |_ n ih=>
  intro l hl hb xs
  match l,hl,hb with
  |[],_,_=>simp[Xbo,sx]
  |[x],_,_=>
   simp only[List.foldl_cons,List.foldl_nil,Yih]
   simp[Xbo,sx]
  |[x,y],_,hb=>
   simp only[List.foldl_cons,List.foldl_nil,Yih,Yld _ _ y (hb y (by simp))]
   simp[Xbo,sx]
  |x::y::z::r,hl,hb=>
   simp only[List.foldl_cons,Yih,Yld _ _ y (hb y (by simp)),Ym1 _ _ z (hb z (by simp))]
   rw[ih (n-1) (by simp at hl;omega) r (by simp at hl;omega) (fun w hw=>hb w (by simp[hw]))]
   simp[sx]
theorem Xwt (l:List Nat)(hb:∀x∈l,x<256):Xbo (Xgp l)=(sx l).map al:=by
 have:=Yes l.length l (zL _) hb []
 simpa [Xgp] using this
theorem Yez (xs:List Nat)(a:Nat):Xbb (0,0,xs) a=(a,6,xs):=by simp[Xbb,Xb5]
theorem Yik (xs:List Nat)(a b:Nat)(hb:b<64):Xbb (a,6,xs) b=(b%16,4,xs++[a*4+b/16]):=by
 simp[Xbb,Xb5]
 refine⟨by omega,by omega⟩
theorem Yle (xs:List Nat)(b c:Nat)(hc:c<64):Xbb (b,4,xs) c=(c%4,2,xs++[b*16+c/4]):=by
 simp[Xbb,Xb5]
 refine⟨by omega,by omega⟩
theorem Ym3 (xs:List Nat)(c d:Nat):Xbb (c,2,xs) d=(0,0,xs++[c*64+d]):=by
 simp[Xbb,Xb5]
 omega
theorem Yex (n:Nat):∀(l:List Nat),l.length≤n→(∀x∈l,x<64)→∀xs,(l.foldl Xbb (0,0,xs)).1=(dv l).1∧(l.foldl Xbb (0,0,xs)).2.2=xs++(dv l).2:=by
 induction n using Nat.strongRecOn with
 |_ n ih=>
  intro l hl hb xs
  match l,hl,hb with
  |[],_,_=>simp[dv]
  |[a],_,_=>simp[dv,Yez]
  |[a,b],_,hb=>
   simp only[List.foldl_cons,List.foldl_nil,Yez,Yik _ _ b (hb b (by simp))]
   simp[dv]
  |[a,b,c],_,hb=>
   simp only[List.foldl_cons,List.foldl_nil,Yez,Yik _ _ b (hb b (by simp)),Yle _ _ c (hb c (by simp))]
   simp[dv]
  |a::b::c::d::r,hl,hb=>
   simp only[List.foldl_cons,Yez,Yik _ _ b (hb b (by simp)),Yle _ _ c (hb c (by simp)),Ym3]
   have:=ih (n-1) (by simp at hl;omega) r (by simp at hl;omega) (fun w hw=>hb w (by simp[hw])) (xs++[a*4+b/16]++[b%16*16+c/4]++[c%4*64+d])
   rw[this.1,this.2]
   simp[dv]
theorem Xut (l:List Nat)(hb:∀x∈l,x<64):(Xep l).1=(dv l).1∧(Xep l).2.2=(dv l).2:=by
 have:=Yex l.length l (zL _) hb []
 simpa [Xep] using this
theorem Xti (n:Nat):∀(l:List Nat),l.length≤n→(∀x∈l,x<256)→dv (sx l)=(0,l)∧(∀v∈sx l,v<64)∧(sx l).length%4≠1:=by
 induction n using Nat.strongRecOn with
 |_ n ih=>
  intro l hl hb
  match l,hl,hb with
  |[],_,_=>simp[sx,dv]
  |[x],_,hb=>
   have hx:=hb x (by simp)
   refine⟨?_,?_,?_⟩
   ·simp[sx,dv];omega
   ·simp[sx];omega
   ·simp[sx]
  |[x,y],_,hb=>
   have hx:=hb x (by simp)
   have hy:=hb y (by simp)
   refine⟨?_,?_,?_⟩
   ·simp[sx,dv];omega
   ·simp[sx];omega
   ·simp[sx]
  |x::y::z::r,hl,hb=>
   have hx:=hb x (by simp)
   have hy:=hb y (by simp)
   have hz:=hb z (by simp)
   have h:=ih (n-1) (by simp at hl;omega) r (by simp at hl;omega) (fun w hw=>hb w (by simp[hw]))
   refine⟨?_,?_,?_⟩
   ·simp only[sx,List.cons_append,List.nil_append,dv,h.1]
    simp
    omega
   ·intro v hv
    simp only[sx,List.cons_append,List.nil_append,List.mem_cons] at hv
    rcases hv with rfl|rfl|rfl|rfl|hv
    ·omega
    ·omega
    ·omega
    ·omega
    ·exact h.2.1 v hv
   ·simp[sx];omega
theorem Yev (n:Nat):∀(vs:List Nat),vs.length≤n→(∀v∈vs,v<64)→vs.length%4≠1→(dv vs).1=0→sx (dv vs).2=vs∧(∀x∈(dv vs).2,x<256):=by
 induction n using Nat.strongRecOn with
 |_ n ih=>
  intro vs hl hb h1 h0
  match vs,hl,hb,h1,h0 with
  |[],_,_,_,_=>simp[dv,sx]
  |[a],_,_,h1,_=>simp at h1
  |[a,b],_,hb,_,h0=>
   have ha:=hb a (by simp)
   have hb':=hb b (by simp)
   simp[dv] at h0
   refine⟨?_,?_⟩
   ·simp[dv,sx];omega
   ·simp[dv];omega
  |[a,b,c],_,hb,_,h0=>
   have ha:=hb a (by simp)
   have hb':=hb b (by simp)
   have hc:=hb c (by simp)
   simp[dv] at h0
   refine⟨?_,?_⟩
   ·simp[dv,sx];omega
   ·simp[dv];omega
  |a::b::c::d::r,hl,hb,h1,h0=>
   have ha:=hb a (by simp)
   have hb':=hb b (by simp)
   have hc:=hb c (by simp)
   have hd:=hb d (by simp)
   have h:=ih (n-1) (by simp at hl;omega) r (by simp at hl;omega) (fun w hw=>hb w (by simp[hw])) (by simp at h1;omega) (by simpa [dv] using h0)
   refine⟨?_,?_⟩
   ·simp only[dv,List.cons_append,List.nil_append,sx,h.1]
    simp
    omega
   ·intro x hx
    simp only[dv,List.cons_append,List.nil_append,List.mem_cons] at hx
    rcases hx with rfl|rfl|rfl|hx
    ·omega
    ·omega
    ·omega
    ·exact h.2 x hx
theorem Ygu:∀v:Nat,v<64→vOf (al v)=some v:=by
 have:∀v:Fin 64,vOf (al v.val)=some v.val:=by decide+kernel
 exact fun v h=>this ⟨v,h⟩
theorem Yce (vs:List Nat)(h:∀v∈vs,v<64):Xig (vs.map al)=some vs:=by
 induction vs with
 |nil=>rfl
 |cons v r ih=>
  have:=ih (fun w hw=>h w (by simp[hw]))
  simp only[Xig,List.map_cons,List.mapM_cons] at*
  rw[Ygu v (h v (by simp)),this]
  rfl
theorem Ycf {l vs:List Nat}(h:Xig l=some vs):l=vs.map al:=by
 induction l generalizing vs with
 |nil=>simp[Xig] at h;subst h;rfl
 |cons c l ih=>
  simp only[Xig,List.mapM_cons,Option.bind_eq_bind,Option.bind_eq_some_iff,Option.pure_def,Option.some.injEq] at h
  obtain⟨v,hv,r,hr,rfl⟩:=h
  rw[List.map_cons,Yjt hv,←ih hr]
theorem Ym9:∀v:Nat,v<64→al v≠61:=by decide
theorem Xob (T:List Nat):∀k,k<(Xik T).length→T.length≤k→(Xik T).getD k 0=61:=by
 intro k hk hT
 unfold Xik at*
 rw[List.getD_eq_getElem?_getD,List.getElem?_append_right hT,List.getElem?_replicate]
 simp at hk
 rw[qP (by omega)]
 rfl
theorem Xr8 (T:List Nat)(k:Nat)(hk:k<T.length):(Xik T).getD k 0=T.getD k 0:=by
 unfold Xik
 rw[List.getD_eq_getElem?_getD,List.getElem?_append_left hk,List.getD_eq_getElem?_getD]
theorem Ya2 (vs:List Nat)(h:∀v∈vs,v<64)(h1:vs.length%4≠1):Xbk (Xik (vs.map al))=vs.length:=by
 have hlen:(Xik (vs.map al)).length=(vs.length+3)/4*4:=by rw[Xt5,List.length_map]
 have hin:∀k,k<vs.length→(Xik (vs.map al)).getD k 0≠61:=fun k hk=>by
  rw[Xr8 _ _ (by simpa using hk),List.getD_eq_getElem?_getD,List.getElem?_map,List.getElem?_eq_getElem hk]
  exact Ym9 _ (h _ (zG hk))
 have hout:∀k,k<(vs.length+3)/4*4→vs.length≤k→(Xik (vs.map al)).getD k 0=61:=fun k hk hv=>Xob _ k (by rw[hlen];exact hk) (by simpa using hv)
 unfold Xbk
 rw[hlen]
 by_cases h4:vs.length%4=0
 ·rw[qP]
  ·omega
  ·by_cases h0:vs.length=0
   ·left;omega
   ·right;right
    exact hin _ (by omega)
 ·rw[qN]
  ·by_cases h2:vs.length%4=2
   ·rw[qP (hout _ (by omega) (by omega))];omega
   ·rw[qN (hin _ (by omega))];omega
  ·have:=hout ((vs.length+3)/4*4-1) (by omega) (by omega)
   omega
theorem Xof (l:List Nat)(hb:∀x∈l,x<256):Xfk l=Xik ((sx l).map al):=by rw[Xfk,Xwt l hb]
theorem Ycs (T:List Nat):(Xik T).take T.length=T:=by unfold Xik;exact List.take_left
theorem Xsl (l:List Nat)(hb:∀x∈l,x<256)(hl:l.length≤131072):Xct (Xfk l)=(l,0,0):=by
 have hs:=Xti l.length l (zL _) hb
 have hlen:=Xjz l hb
 have hd:Xbk (Xfk l)=(sx l).length:=by rw[Xof l hb];exact Ya2 _ hs.2.1 hs.2.2
 have hv:Xig ((Xfk l).take (Xbk (Xfk l)))=some (sx l):=by
  rw[hd,Xof l hb]
  have:=Ycs ((sx l).map al)
  rw[List.length_map] at this
  rw[this]
  exact Yce _ hs.2.1
 have hst:=Xut (sx l) hs.2.1
 rw[Xh5 hv (by rw[hlen];omega),qN (by rw[hlen];omega),hst.1,hst.2,hs.1]
 simp
theorem Xoe (l:List Nat)(h:(Xct l).2.2=0):Xfk (Xct l).1=l∧(∀x∈(Xct l).1,x<256):=by
 have hlen:l.length≤174764:=by
  rcases Nat.lt_or_ge 174764 l.length with hl|hl
  ·unfold Xct at h;rw[qP hl] at h;simp at h
  ·exact hl
 cases hv:Xig (l.take (Xbk l)) with
 |none=>unfold Xct at h;rw[qN (by omega),hv] at h;simp at h
 |some vs=>
  have hg:=Xh5 hv hlen
  by_cases h4:l.length%4=0
  ·rw[qN (by omega)] at hg
   by_cases hb:(Xep vs).1=0
   ·rw[qN (by omega)] at hg
    have hvl:=Xq4 hv
    have hst:=Xut vs hvl.1
    have hT:=Ycf hv
    have hn:vs.length=Xbk l:=by rw[hvl.2,List.length_take,Nat.min_eq_left (Xj1 l)]
    have hpad:Xik (vs.map al)=l∧vs.length%4≠1:=by
     have hdl:=Xj1 l
     rw[←hT]
     have hl':l=l.take (Xbk l)++l.drop (Xbk l):=(List.take_append_drop _ _).symm
     have hTl:(l.take (Xbk l)).length=Xbk l:=by rw[List.length_take,Nat.min_eq_left hdl]
     unfold Xik
     rw[hTl]
     have key:l.drop (Xbk l)=List.replicate ((4-Xbk l%4)%4) 61∧Xbk l%4≠1:=by
      unfold Xbk
      split
      ·rename_i hc
       refine⟨?_,by omega⟩
       rw[List.drop_of_length_le (zL _),h4]
       rfl
      ·rename_i hc
       have hl0:l.length≠0:=fun e=>hc (.inl e)
       have hlast:l.getD (l.length-1) 0=61:=by
        rcases Nat.decEq (l.getD (l.length-1) 0) 61 with e|e
        ·exact absurd (.inr (.inr e)) hc
        ·exact e
       have hget1:l[l.length-1]'(by omega)=61:=by
        rw[List.getD_eq_getElem?_getD,List.getElem?_eq_getElem (by omega)] at hlast
        simpa using hlast
       split
       ·rename_i h2
        have hget2:l[l.length-2]'(by omega)=61:=by
         rw[List.getD_eq_getElem?_getD,List.getElem?_eq_getElem (by omega)] at h2
         simpa using h2
        refine⟨?_,by omega⟩
        rw[show(4-(l.length-2)%4)%4=2 by omega]
        rw[List.drop_eq_getElem_cons (by omega),hget2,show l.length-2+1=l.length-1 by omega,List.drop_eq_getElem_cons (by omega),hget1,List.drop_of_length_le (by omega)]
        rfl
       ·refine⟨?_,by omega⟩
        rw[show(4-(l.length-1)%4)%4=1 by omega]
        rw[List.drop_eq_getElem_cons (by omega),hget1,List.drop_of_length_le (by omega)]
        rfl
     rw[←key.1,←hl']
     exact⟨rfl,by rw[hn];exact key.2⟩
    have hf:=Yev vs.length vs (zL _) hvl.1 hpad.2 (by rw[←hst.1];exact hb)
    rw[hg]
    simp only[hst.2]
    exact⟨by rw[Xof _ hf.2,hf.1,hpad.1],hf.2⟩
   ·rw[qP hb] at hg
    rw[hg] at h
    simp at h
  ·rw[qP h4] at hg
   rw[hg] at h
   simp at h
theorem Yav (l:List Nat):∀x∈Xfk l,x<256:=by
 intro x hx
 unfold Xfk Xik at hx
 rcases List.mem_append.1 hx with h|h
 ·have key:∀(s:Nat×Nat×List Nat),(∀y∈s.2.2,y<256)→∀y∈Xbo s,y<256:=by
     intro s hs y hy
     unfold Xbo at hy
     split at hy
     ·rcases List.mem_append.1 hy with h|h
      ·exact hs y h
      ·simp at h;subst h;have:=Yfl (s.1*2^(6-s.2.1));omega
     ·exact hs y hy
  refine key _ ?_ x h
  have dr:∀(k b c:Nat) (ys:List Nat),(∀y∈ys,y<256)→∀y∈(Xb5 al 6 k b c ys).2.2,y<256:=by
   intro k
   induction k with
   |zero=>intro b c ys h;exact h
   |succ k ih=>
    intro b c ys h
    rw[Xb5]
    split
    ·exact h
    ·refine ih _ _ _ ?_
     intro y hy
     rcases List.mem_append.1 hy with h'|h'
     ·exact h y h'
     ·simp at h';subst h';have:=Yfl (b/2^(c-6));omega
  have fo:∀(r:List Nat) (s:Nat×Nat×List Nat),(∀y∈s.2.2,y<256)→∀y∈(r.foldl Xbe s).2.2,y<256:=by
   intro r
   induction r with
   |nil=>intro s h;exact h
   |cons g r ih=>intro s h;exact ih _ (dr _ _ _ _ h)
  exact fo l (0,0,[]) (by simp)
 ·have:=(List.mem_replicate.1 h).2
  omega
end Go.Proofs.YtjolcnopipbkhaaGreatDoor
/- The library's decimal numerals at this seat (laid by the shelf's tools): Itoa. -/
namespace Go.Proofs.YtjolcnopipbkhaaGreatDoor
open Go.Proofs.Tryz
open Go.Shelf Go.RowKit Go.Sort
set_option linter.unusedVariables false
set_option maxRecDepth 100000
set_option maxHeartbeats 100000000
def Xk3:Go.Shelf.Ren:=⟨fun|171=>81|243=>130|246=>181|283=>232|284=>233|285=>234|286=>235|129=>264|317=>263|318=>265|319=>266|320=>267|337=>278|338=>279|n=>n,fun|3=>3|9=>9|2=>2|4=>4|171=>286|0=>0|53=>158|37=>82|5=>5|173=>289|212=>310|51=>163|20=>20|213=>311|46=>128|232=>25|233=>184|n=>n,fun|17=>4|18=>5|19=>6|n=>n⟩
theorem Xrz:Go.Proofs.LaysM.n171 prog Xk3:={
 mixed:=by kernel_rfl
 f129:=func264.trans (congrArg some (by kernel_rfl))
 f171:=func81.trans (congrArg some (by kernel_rfl))
 f243:=func130.trans (congrArg some (by kernel_rfl))
 f246:=func181.trans (congrArg some (by kernel_rfl))
 f283:=func232.trans (congrArg some (by kernel_rfl))
 f284:=func233.trans (congrArg some (by kernel_rfl))
 f285:=func234.trans (congrArg some (by kernel_rfl))
 f286:=func235.trans (congrArg some (by kernel_rfl))
 f317:=func263.trans (congrArg some (by kernel_rfl))
 f318:=func265.trans (congrArg some (by kernel_rfl))
 f319:=func266.trans (congrArg some (by kernel_rfl))
 f320:=func267.trans (congrArg some (by kernel_rfl))
 f337:=func278.trans (congrArg some (by kernel_rfl))
 f338:=func279.trans (congrArg some (by kernel_rfl))
 t0:=underlying0
 a0:=Tryz.isAgg0
 z0:=Tryz.sizeOf0
 v0:=Tryz.zeroValue0
 t2:=underlying2
 a2:=Tryz.isAgg2
 z2:=Tryz.sizeOf2
 v2:=Tryz.zeroValue2
 t3:=underlying3
 a3:=Tryz.isAgg3
 z3:=Tryz.sizeOf3
 v3:=Tryz.zeroValue3
 t4:=underlying4
 a4:=Tryz.isAgg4
 z4:=Tryz.sizeOf4
 v4:=Tryz.zeroValue4
 t5:=underlying5
 a5:=Tryz.isAgg5
 z5:=Tryz.sizeOf5
 v5:=Tryz.zeroValue5
 t9:=underlying9
 a9:=Tryz.isAgg9
 z9:=Tryz.sizeOf9
 v9:=Tryz.zeroValue9
 t20:=underlying20
 a20:=Tryz.isAgg20
 z20:=Tryz.sizeOf20
 v20:=Tryz.zeroValue20
 t37:=underlying82
 a37:=Tryz.isAgg82
 z37:=Tryz.sizeOf82
 v37:=Tryz.zeroValue82
 t46:=underlying128
 a46:=Tryz.isAgg128
 z46:=Tryz.sizeOf128
 v46:=Tryz.zeroValue128
 t51:=underlying163
 a51:=Tryz.isAgg163
 z51:=Tryz.sizeOf163
 v51:=Tryz.zeroValue163
 t53:=underlying158
 a53:=Tryz.isAgg158
 z53:=Tryz.sizeOf158
 v53:=Tryz.zeroValue158
 t171:=underlying286
 a171:=Tryz.isAgg286
 z171:=Tryz.sizeOf286
 v171:=Tryz.zeroValue286
 t173:=underlying289
 a173:=Tryz.isAgg289
 z173:=Tryz.sizeOf289
 v173:=Tryz.zeroValue289
 t212:=underlying310
 a212:=Tryz.isAgg310
 z212:=Tryz.sizeOf310
 v212:=Tryz.zeroValue310
 t213:=underlying311
 a213:=Tryz.isAgg311
 z213:=Tryz.sizeOf311
 t232:=underlying25
 a232:=Tryz.isAgg25
 z232:=Tryz.sizeOf25
 v232:=Tryz.zeroValue25
 t233:=underlying184
 a233:=Tryz.isAgg184
 z233:=Tryz.sizeOf184
 v233:=Tryz.zeroValue184
 g17:=by kernel_rfl
 g18:=by kernel_rfl
 g19:=by kernel_rfl
 i0:=by kernel_rfl
 i2:=by kernel_rfl
 i3:=by kernel_rfl
 i4:=by kernel_rfl
 i5:=by kernel_rfl
 i9:=by kernel_rfl
 i20:=by kernel_rfl
 i37:=by kernel_rfl
 i46:=by kernel_rfl
 i51:=by kernel_rfl
 i53:=by kernel_rfl
 i171:=by kernel_rfl
 i173:=by kernel_rfl
 i212:=by kernel_rfl
 i232:=by kernel_rfl
 i233:=by kernel_rfl
 m17:=by kernel_rfl
 m18:=by kernel_rfl
 m19:=by kernel_rfl}
theorem Xk2 (n : Int)(h0 : -9223372036854775808 ≤ n)(h1 : n ≤ 9223372036854775807)(w : World)(htab : Lib.TabIs prog w "internal/strconv.uint64pow10" .u64 Lib.pow10Tab) :
    Calls prog 81 #[.int .i64 n] w fun e w'=>e=.returned (.string ⟨(Lib.itoa n).toArray⟩)∧∃k os,w'=grow (w.drewN k) os:=Any.strconv_Itoa Xrz n h0 h1 w htab
end Go.Proofs.YtjolcnopipbkhaaGreatDoor
/- Walk of base64.Decode. -/
namespace Go.Proofs.YtjolcnopipbkhaaGreatDoor
open Go.Proofs.Tryz
open Go.RowKit Go.Maps
set_option linter.unusedVariables false
set_option maxHeartbeats 100000000
set_option maxRecDepth 100000
theorem Ydn (w0:World)(B:Nat)(hs:B≤w0.heap.size):Xu7 w0 B 249 (2^8) id:=by
 intro w v xs g hb hT hown hn hg
 exact Ynn w (B+1) g B v xs hT hown (Nat.le_trans hs hb.size) (by omega) hn (by omega)
def Xov (w:World)(r:List Nat×Nat×Nat)(e:Ending)(w':World):Prop:=
 ∃v,e=.returned (.tuple #[v,.int .i64 (r.2.1:Int),.int .i64 (r.2.2:Int)])∧w'.ownsRow w.heap.size 5 1 v r.1.length (r.1.map U)∧Bw w w'
theorem Xtn:Ycx 131072=174764:=by decide
theorem Xsi (s:ByteArray)(w:World)(hs:s.size≤maxLen)(hl:174764<s.size):
    Calls prog 209 #[.string s] w (Xov w (Xct (bs s))):=by
 unfold maxLen at hs
 have hf:Xct (bs s)=([],0,5):=by unfold Xct;rw[qP (by rw[Xaa];exact hl)]
 rw[hf]
 have hm:=Xtn
 clear hf
 go_enter func209,ntmps209
 go_wp2_with (go_at_call 247;refine(Xtq _ _ (by omega) (by omega)).mono ?_;rintro e w' ⟨rfl,rfl⟩;rw[hm])
 go_ret3
 exact⟨_,rfl,World.ownsRow_nil _ _ _ _,zR _ _⟩
theorem Xqj (s:ByteArray)(w:World)(hl:s.size≤174764)(ht:Tab w):
    Calls prog 209 #[.string s] w (Xov w (Xct (bs s))):=by
 obtain⟨i0,hi0,hz0,hz1,hz2⟩:=info_parts Xhw
 have hm:=Xtn
 obtain⟨n,hn⟩:=xq (Xbk (bs s))
 have hns:n≤s.size:=by rw[hn,←Xaa];exact Xj1 _
 have D1:Hid (∀w,Rx 248 #[.string s] w (.int .i64 (n:Int))):=fun w=>by rw[hn];exact Ye0 s w (by unfold maxLen;omega)
 have hb2:i0.bytes*(n*6/8)≤281474976710656:=by rw[hz2];omega
 have R0:=fun(cs:Array Value) (h:cs.size=(n*6/8)*1)=>Xt1 w cs (n*6/8) 6 8 249 (by unfold maxLen;omega) h
 have P0:=Hd (Ydn w w.heap.size (zL _))
 have TB:=Hd ht;have HN:=Hd hn;have RR:=Hd R0;have HM:=Hd hm
 clear ht hn R0 hm
 go_enter func209,ntmps209
 go_wp2_with (first|(go_at_call 247;refine(Xtq _ _ (by omega) (by omega)).mono ?_;rintro e w' ⟨rfl,rfl⟩;rw[HM.o])|(go_at_call 248;refine(D1.o _).mono ?_;rintro e w' ⟨rfl,rfl⟩)|(at_make;refine Xb9 _ rfl _ _ _ rfl 5 i0 _ 1 underlying82 hi0 hz0 hz1 .i64 .i64 _ _ 0 (n*6/8) rfl rfl rfl (by omega) (by omega) hb2 (by unfold maxLen;omega) ?_;intro cs hcs;have CS:=Hd hcs;clear hcs)|(go_at_call 230;refine(Xkn _ 6 8 _ _ w.heap.size (by simp)).mono ?_;rintro e w1 ⟨rfl,rfl⟩))
 have r7:=RR.o cs CS.o
 have b7:=Xls w (.cells cs 5) (.cells #[.slice (some ⟨w.heap.size,0,none⟩) 0 (n*6/8)] 82) (.cells #[.int .i64 ((6:Nat):Int)] 3) (.cells #[.int .i64 ((8:Nat):Int)] 3) (.cells #[.func (.func 249) #[] #[.pointer (some ⟨w.heap.size+1,0,none⟩)]] 183) (.cells #[.int .i64 0] 3) (.cells #[.int .i64 0] 3)
 refine(Xvc _ (TB.o.below b7 TB.o.size)).mono ?_
 generalize ((((((((w.alloc (.cells cs 5)).alloc (.cells #[.slice (some ⟨w.heap.size,0,none⟩) 0 (n*6/8)] 82)).alloc (.cells #[.int .i64 ((6:Nat):Int)] 3)).alloc (.cells #[.int .i64 ((8:Nat):Int)] 3)).alloc (.cells #[.func (.func 249) #[] #[.pointer (some ⟨w.heap.size+1,0,none⟩)]] 183)).alloc (.cells #[.int .i64 0] 3)).alloc (.cells #[.int .i64 0] 3)))=W7 at*
 obtain⟨M,hM⟩:=xq W7.heap.size
 rw[←hM]
 rintro e w1 ⟨rfl,hmap,hb1⟩
 have r8:=r7.below (by subst hM;exact hb1)
 have b8:Bw w w1:=b7.trans (hb1.mono (by have:=b7.size;omega))
 have R8:=Hd r8;have B8:=Hd b8;have M8:=Hd hmap
 clear r7 b7 hM hmap hb1 r8 b8
 go_wp2_with fail
 go_loopg [32] n (fun k i wr=>∃j b c xs vs,j≤n∧k=n-j∧i=.int .i64 (j:Int)∧Xig ((bs s).take j)=some vs∧Xep vs=(b,c,xs)∧RG w.heap.size 6 8 249 b c xs wr∧Bw w wr∧wr.ownsMap prog 5 (plainElem (H:=Unit) prog 3) M 64 (Yb7 64))
 case atStart=>exact⟨0,0,0,[],[],by omega,by omega,rfl,Xta,rfl,R8.o,B8.o,M8.o⟩
 case round=>
  obtain⟨j,b,c,xs,vs,hj,rfl,rfl,hvs,hst,hrg,hbl,hmap⟩:=hrel
  have hvl:=Xq4 hvs
  have hinv:=Xlk vs hvl.1
  rw[hst] at hinv
  obtain⟨v1,v2⟩:=hvl
  obtain⟨i1,i2,i3⟩:=hinv
  simp only[List.length_take] at v2
  simp only at i1 i2 i3
  have hxl:xs.length≤900000:=by omega
  clear R8 B8 M8 W7
  by_cases hlt:j<n
  ·have hjl:j<(bs s).length:=by rw[Xaa];omega
   obtain⟨g,hg'⟩:=xq ((bs s)[j])
   have hg:g<256:=by rw[hg'];exact Xgq s _ (zG hjl)
   have hx:∀w,(Instr.index 9 (.string s) (.int .i64 (j:Int))).run prog w=.ok (.int .u8 (g:Int)) w:=fun w=>by
    rw[Xa5 9 underlying9 s .i64 (j:Int) j rfl (by omega),hg',List.getD_eq_getElem?_getD,List.getElem?_eq_getElem hjl,Option.getD_some]
   have hkey:keyOf prog 5 (.int .u8 (g:Int))=some (.int .u8 (g:Int)):=keyOf_int_mk underlying5 (WalkArith.wf_u8 (by omega))
   have hhas:=Ycj g hg
   have hat0:=Ygv g hg
   have VS:=Hd hvs;have ST:=Hd hst;have RGH:=Hd hrg;have BL:=Hd hbl;have MP:=Hd hmap;have HG:=Hd hg';have I2:=Hd i2;have AT:=Hd hat0;have V1:=Hd v1
   clear hvs hst hrg hbl hmap hg' i2 hat0 v1
   cases hv:vOf g with
   |none=>
    rw[hv] at hhas
    simp only[Option.isSome_none] at hhas
    have HV:=Hd hv
    clear hv
    go_wp2_with (at_lookup;refine wpList_lookup_own_ok_int _ rfl _ _ 299 rfl 5 3 .i64 Ymi underlying299 underlying3 (Yjo _) M 64 _ rfl MP.o _ _ rfl hkey ?_;intro c' hat hwc)
    go_ret3
    have hd:=Xuu VS.o (by rw[←HN.o];exact hlt) hjl (by rw[←HG.o];exact HV.o) (by rw[Xaa];omega)
    rw[hd]
    exact⟨_,rfl,World.ownsRow_nil _ _ _ _,BL.o⟩
   |some v=>
    have hv64:=Xxl hv
    rw[hv] at hhas
    simp only[Option.isSome_some] at hhas
    have C1:=Hd (Ynq w wr w.heap.size 6 8 b c v id xs RGH.o BL.o P0.o (by omega) (by omega) (by omega) i1 I2.o (by omega) hxl)
    have HV:=Hd hv
    clear hv
    have hat1:∀x,(Yb7 64).atKey (.int .u8 (g:Int)) (.lit (.int .i64 0))=.lit (.int .i64 x)→x=(v:Int):=fun x hx=>by have:=AT.o x hx;rw[HV.o] at this;simpa using this
    have AT1:=Hd hat1
    clear hat1
    go_wp2_with (first|(at_lookup;refine wpList_lookup_own_ok_int _ rfl _ _ 299 rfl 5 3 .i64 Ymi underlying299 underlying3 (Yjo _) M 64 _ rfl MP.o _ _ rfl hkey ?_;intro c' hat hwc;obtain rfl:=AT1.o c' hat;clear hat hwc)|(go_at_call 261;refine C1.o.mono ?_;rintro e w1 ⟨rfl,hb1,hkm,b1,c1,ys,hd,hr1⟩;have HD:=Hd hd;clear hd))
    go_roundg (n-(j+1))
    case measure=>omega
    case rel=>
     refine⟨j+1,b1,c1,ys,vs++[v],by omega,rfl,by go_num,?_,?_,hr1,hb1,hkm.owns MP.o⟩
     ·rw[List.take_succ_eq_append_getElem hjl]
      exact Xo3 VS.o (by rw[←HG.o];exact HV.o)
     ·rw[Xm3,ST.o]
      exact HD.o
  ·obtain rfl:j=n:=by omega
   have hg:=Xh5 (l:=bs s) (by rw[←HN.o];exact hvs) (by rw[Xaa];exact hl)
   rw[hst,Xaa,←HN.o] at hg
   obtain⟨v,hv,hown⟩:=hrg.txt
   have hc:=cell_of_one hv
   have L1:=Hd (Xuh wr w.heap.size 6 8 249 b c xs hrg)
   have HG:=Hd hg;have BL:=Hd hbl;have OW:=Hd hown
   obtain⟨a',cap',rfl⟩:=Xhp hown
   have hbj:Hid (j=0→b=0):=fun h=>by
    have hc0:c=0:=by omega
    rw[hc0] at i2
    simpa using i2
   clear hg hbl hown hrg hst hvs hv hmap i2
   by_cases h4:s.size%4=0
   ·have h4':((s.size:Int)%4 !=0)=false:=Xau (by omega)
    by_cases hb0:b=0
    ·have hb':((b:Int) !=0)=false:=Xau (by omega)
     go_wp2_with (go_at_call 262;refine L1.o.mono ?_;rintro e w1 ⟨rfl,nq,rfl⟩)
     go_ret3
     rw[HG.o,qN (by omega),qN (by simpa using hb0)]
     exact⟨_,rfl,OW.o,below_drewN BL.o nq⟩
    ·have hb':((b:Int) !=0)=true:=Xam (by omega)
     have hn0:1≤j:=Nat.pos_of_ne_zero fun h=>hb0 (hbj.o h)
     go_wp2_with (go_at_call 262;refine L1.o.mono ?_;rintro e w1 ⟨rfl,nq,rfl⟩)
     go_ret3
     rw[HG.o,qN (by omega),qP (by simpa using hb0)]
     exact⟨_,by simp;omega,World.ownsRow_nil _ _ _ _,below_drewN BL.o nq⟩
   ·have h4':((s.size:Int)%4 !=0)=true:=Xam (by omega)
    go_wp2_with fail
    go_ret3
    rw[HG.o,qP h4]
    exact⟨_,rfl,World.ownsRow_nil _ _ _ _,BL.o⟩
theorem Xsg (w:World)(a:Option Addr)(cap:Nat)(l:List Nat)(hl:l.length≤131072)(hrd:Rd w a l)(ht:Tab w):
    zJ 128 #[.slice a l.length cap] w (.tuple #[.string (Xaq (Xfk l)),.int .i64 0]):=by
 have C1:=Hd (Xws w a cap l (by omega) hrd ht)
 obtain⟨n,hn⟩:=xq l.length
 rw[←hn] at C1 hl⊢
 clear hrd ht hn
 go_enter func128,ntmps128
 go_wp2_with (go_at_call 180;refine C1.o.mono ?_;rintro e w1 ⟨rfl,hb1⟩)
 go_ret2
 exact⟨rfl,hb1⟩
end Go.Proofs.YtjolcnopipbkhaaGreatDoor
