/- groupname.ParseList. -/
import Derived.Test.YtohmdledkhgdaaaGreatDoorPa23
namespace Go.Proofs.YtohmdledkhgdaaaGreatDoor
open Go.RowKit
set_option linter.unusedVariables false
set_option maxRecDepth 100000
def Ydm (l:List Nat):Nat:=if l=[] then 4 else Xcc Xbg (spl 44 l)
def Xzn (s:ByteArray) (w:World) (e:Ending) (w':World):Prop:=
 ∃(v:Value) (gs:List ByteArray),e=.returned (.tuple #[v,.int .i64 ((Ydm (bs s):Nat):Int)])∧SRow w' v gs∧(∀g∈gs,g.size≤s.size)∧gs.length≤s.size+1∧(Ydm (bs s)=0→gs.map bs=spl 44 (bs s))∧(∀k,v.ownBlock=some k→w.heap.size≤k)∧Below w.heap.size w w'
theorem Xrv (w:World):SRow w (.slice none 0 0) []:=⟨none,0,rfl,Nat.le_refl _,fun h=>absurd rfl h⟩
theorem Xus (s:ByteArray) (w:World) (hs:s.size≤100000) (hE:Env w):
    Calls Tryz.prog 113 #[.string s] w (Xzn s w):=by
 obtain⟨R,hR⟩:∃R,R=Ydm (bs s):=⟨_,rfl⟩
 have FX:Hid (∀e w',(∃(v:Value) (gs:List ByteArray),e=.returned (.tuple #[v,.int .i64 (R:Int)])∧SRow w' v gs∧(∀g∈gs,g.size≤s.size)∧gs.length≤s.size+1∧(R=0→gs.map bs=spl 44 (bs s))∧(∀k,v.ownBlock=some k→w.heap.size≤k)∧Below w.heap.size w w')→Xzn s w e w'):=Hd (fun e w' h=>by rw[hR] at h;exact h)
 have SP:=Hd (Xjd s 44 w (by omega) hE)
 have HE:=Hd hE
 by_cases h0:s.size=0
 ·have F:Hid (R=4):=Hd (by rw[hR];unfold Ydm;rw[if_pos (by rw[←List.length_eq_zero_iff,Xaa];exact h0)])
  have qe:s.toList.isEmpty=true:=by
   rw[show s=⟨#[]⟩ from ByteArray.ext (Array.eq_empty_of_size_eq_zero h0),ByteArray.toList_eq];rfl
  clear h0 hR hE
  go_enter Tryz.func113,Tryz.ntmps113
  go_wp2_with fail
  go_ret2
  exact FX.out _ _ ⟨_,[],by rw[F.out];rfl,Xrv _,by simp,by simp,fun h=>absurd (F.out.symm.trans h) (by decide),(fun k hk=>by cases hk),Below.refl _ _⟩
 have RD:Hid (R=Xcc Xbg (spl 44 (bs s))):=Hd (by rw[hR];unfold Ydm;rw[if_neg (by rw[←List.length_eq_zero_iff,Xaa];exact h0)])
 have qe:s.toList.isEmpty=false:=Xdr h0
 clear h0 hR hE
 go_enter Tryz.func113,Tryz.ntmps113
 go_wp2_with fail
 refine SP.out.mono ?_
 rintro e w1 ⟨v,gs,rfl,hgs,hrow,hgz,hgn,hown,hb⟩
 have CL:=Hd (Xo9 w1 v gs hrow (by omega) (fun g hg=>by have:=hgz g hg;omega) (HE.out.on hb))
 rw[hgs,show((44:UInt8).toNat)=44 from rfl,←RD.out] at CL
 have GS:=Hd hgs
 have OWN:Hid (∀k,v.ownBlock=some k→w.heap.size≤k):=Hd (fun k hk=>(hown.lt k hk).1)
 have ROW:=Hd hrow;have GZ:=Hd hgz;have GN:=Hd hgn;have B1:=Hd hb
 clear SP hgs hrow hgz hgn hown hb RD
 go_wp2_with fail
 refine CL.out.mono ?_
 rintro e w2 ⟨rfl,hb2⟩
 have B2:=Hd (B1.out.trans (hb2.mono B1.out.size))
 have ROW2:=Hd (ROW.out.below hb2)
 clear hb2 CL ROW B1
 by_cases h:R=0
 ·have q:((R:Int) !=0)=false:=Xat (by omega)
  have HR:=Hd h
  clear h
  go_wp2_with fail
  go_ret2
  exact FX.out _ _ ⟨_,gs,by rw[HR.out];rfl,ROW2.out,GZ.out,GN.out,fun _=>GS.out,OWN.out,B2.out⟩
 ·have q:((R:Int) !=0)=true:=Xam (by omega)
  have HR:=Hd h
  clear h
  go_wp2_with fail
  go_ret2
  exact FX.out _ _ ⟨_,[],rfl,Xrv _,by simp,by simp,fun h=>absurd h HR.out,(fun k hk=>by cases hk),B2.out⟩
end Go.Proofs.YtohmdledkhgdaaaGreatDoor
/- Plain: reading back what the canonical form's parts print: digits, identities, references. -/
namespace Go.Proofs.YtohmdledkhgdaaaGreatDoor
set_option linter.unusedVariables false
theorem Xxz {k:Nat} (h:k<16):hvl (hxl k)=some k:=by
 rcases(by omega:k=0∨k=1∨k=2∨k=3∨k=4∨k=5∨k=6∨k=7∨k=8∨k=9∨k=10∨k=11∨k=12∨k=13∨k=14∨k=15) with rfl|rfl|rfl|rfl|rfl|rfl|rfl|rfl|rfl|rfl|rfl|rfl|rfl|rfl|rfl|rfl<;>rfl
theorem Xhj:∀{l:List Nat},(∀x∈l,x<256)→Xik (Xbz l)=some l
 |[],_=>rfl
 |a::l,h=>by
  have ha:=h a (List.mem_cons_self ..)
  rw[Xop]
  simp only[Xik]
  rw[Xxz (by omega),Xxz (by omega),Xhj (fun x hx=>h x (List.mem_cons_of_mem _ hx))]
  simp only[]
  congr 2
  omega
theorem Xzb {l:List Nat} (h:∀x∈l,x<256) (h16:l.length=16):Xeo (Xbz l)=some l:=by
 unfold Xeo;rw[Xbs,h16,if_pos rfl];exact Xhj h
theorem Xoi {l:List Nat} (h:IdOk l):Xe4 (Xc2 l)=some l:=by
 have hl:(Xbz l).length=64:=by rw[Xbs,h.len]
 have e1:((Xc2 l).drop 1).take 64=Xbz l:=by
  unfold Xc2
  show List.take 64 (Xbz l++sHash)=_
  rw[←hl,List.take_left]
 have e2:(Xc2 l).drop 65=sHash:=by
  unfold Xc2
  show List.drop 64 (Xbz l++sHash)=_
  rw[←hl,List.drop_left]
 unfold Xe4
 rw[if_pos ⟨Xeu h,rfl,e2⟩,e1]
 exact Xhj h.lt
def blk (c:Nat):Bool:=decide (c=32)||decide (c=9)
def rpF:Nat→List (List Nat)→List Nat→Option (List (List Nat))
 |0,acc,_=>some acc
 |_+1,acc,[]=>some acc
 |k+1,acc,c::t=>if blk c=true then rpF k acc t else if acc.length=20 then none else
   match Xe4 ((c::t).takeWhile fun x=>!blk x) with
   |none=>none
   |some id=>if cnF acc id≠0 then none else rpF k (acc++[id]) ((c::t).dropWhile fun x=>!blk x)
theorem Ydr (p:Nat→Bool) (l:List Nat):(l.dropWhile p).length≤l.length:=by
 have:=congrArg List.length (List.takeWhile_append_dropWhile (p:=p) (l:=l))
 rw[List.length_append] at this;omega
theorem Xir:∀(n k:Nat) (acc:List (List Nat)) (l:List Nat),l.length≤n→l.length≤k→rpF k acc l=rpF l.length acc l
 |n,0,acc,[],_,_=>rfl
 |n,k+1,acc,[],_,_=>rfl
 |n,0,acc,_::_,_,hk=>by simp at hk
 |0,k+1,acc,_::_,hn,_=>by simp at hn
 |n+1,k+1,acc,c::t,hn,hk=>by
  have ht:t.length≤n:=by simpa using hn
  have htk:t.length≤k:=by simpa using hk
  rw[List.length_cons]
  simp only[rpF]
  by_cases hb:blk c=true
  ·rw[if_pos hb,if_pos hb];exact Xir n k acc t ht htk
  ·rw[if_neg hb,if_neg hb]
   by_cases h20:acc.length=20
   ·rw[if_pos h20,if_pos h20]
   ·rw[if_neg h20,if_neg h20]
    cases Xe4 ((c::t).takeWhile fun x=>!blk x) with
    |none=>rfl
    |some id=>
     simp only[]
     by_cases h0:cnF acc id≠0
     ·rw[if_pos h0,if_pos h0]
     ·rw[if_neg h0,if_neg h0]
      have hd:((c::t).dropWhile fun x=>!blk x).length≤t.length:=by
       rw[List.dropWhile_cons];simp only[hb,Bool.not_false];exact Ydr _ _
      rw[Xir n k _ _ (by omega) (by omega),Xir n t.length _ _ (by omega) hd]
def rpL (acc:List (List Nat)) (l:List Nat):Option (List (List Nat)):=rpF l.length acc l
theorem Xpw (acc:List (List Nat)):rpL acc []=some acc:=rfl
theorem Xn2 {acc:List (List Nat)} {c:Nat} {t:List Nat} (h:blk c=true):rpL acc (c::t)=rpL acc t:=by
 unfold rpL;rw[List.length_cons];simp only[rpF];rw[if_pos h]
theorem Xr7 {acc:List (List Nat)} {c:Nat} {t w r:List Nat} (h:blk c=false) (hw:w=(c::t).takeWhile fun x=>!blk x) (hr:r=(c::t).dropWhile fun x=>!blk x):
    rpL acc (c::t)=if acc.length=20 then none else match Xe4 w with|none=>none|some id=>if cnF acc id≠0 then none else rpL (acc++[id]) r:=by
 subst hw hr
 have hd:((c::t).dropWhile fun x=>!blk x).length≤t.length:=by
  rw[List.dropWhile_cons];simp only[h,Bool.not_false];exact Ydr _ _
 unfold rpL
 rw[List.length_cons]
 simp only[rpF]
 rw[if_neg (by rw[h];decide)]
 by_cases h20:acc.length=20
 ·rw[if_pos h20,if_pos h20]
 ·rw[if_neg h20,if_neg h20]
  cases Xe4 ((c::t).takeWhile fun x=>!blk x) with
  |none=>rfl
  |some id=>
   simp only[]
   by_cases h0:cnF acc id≠0
   ·rw[if_pos h0,if_pos h0]
   ·rw[if_neg h0,if_neg h0];exact Xir _ _ _ _ (Nat.le_refl _) hd
theorem Xoh {l:List Nat} (h:∀x∈l,x<256):∀c∈Xc2 l,(!blk c)=true:=fun c hc=>by
 have:=Xfp h c hc
 unfold blk
 rw[decide_eq_false (by omega),decide_eq_false (by omega)];rfl
theorem Xrq (p:Nat→Bool) (a b:List Nat) (h:∀c∈a,p c=true) (hb:b=[]∨∃c t,b=c::t∧p c=false):(a++b).takeWhile p=a∧(a++b).dropWhile p=b:=by
 induction a with
 |nil=>
  rcases hb with rfl|⟨c,t,rfl,hc⟩
  ·exact⟨rfl,rfl⟩
  ·simp[hc]
 |cons x a ih=>
  have hx:=h x (List.mem_cons_self ..)
  obtain⟨h1,h2⟩:=ih (fun c hc=>h c (List.mem_cons_of_mem _ hc))
  rw[List.cons_append,List.takeWhile_cons,List.dropWhile_cons,hx]
  simp only[if_true]
  exact⟨by rw[h1],h2⟩
theorem Xwk {acc:List (List Nat)} {x:List Nat} (hx:IdOk x) (b:List Nat) (hb:b=[]∨∃t,b=32::t) (h20:acc.length<20) (h0:cnF acc x=0):rpL acc (Xc2 x++b)=rpL (acc++[x]) b:=by
 have hb':b=[]∨∃c t,b=c::t∧(!blk c)=false:=hb.imp id (fun⟨t,e⟩=>⟨32,t,e,by decide⟩)
 obtain⟨h1,h2⟩:=Xrq (fun x=>!blk x) (Xc2 x) b (Xoh hx.lt) hb'
 match hm:Xc2 x,Yey x with
 |c::t,_=>
  have hc:=Xoh hx.lt c (by rw[hm];exact List.mem_cons_self ..)
  rw[hm] at h1 h2
  have hcb:blk c=false:=by simpa using hc
  rw[List.cons_append] at h1 h2⊢
  rw[Xr7 hcb h1.symm h2.symm,if_neg (by omega),←hm,Xoi hx]
  simp only[]
  rw[if_neg (by simpa using h0)]
theorem Xr8:∀(refs:List (List Nat)) (acc:List (List Nat)),(∀x∈refs,IdOk x)→acc.length+refs.length≤20→(∀j (h:j<refs.length),cnF (acc++refs.take j) refs[j]=0)→rpL acc (Xa0 [32] (refs.map Xc2))=some (acc++refs)
 |[],acc,_,_,_=>by simp[Xa0,Xpw]
 |[x],acc,hok,hl,hc=>by
  have h0:cnF acc x=0:=by have:=hc 0 (by simp);simpa using this
  have hl':acc.length<20:=by simp at hl;omega
  show rpL acc (Xc2 x)=_
  rw[←List.append_nil (Xc2 x),Xwk (hok x (List.mem_cons_self ..)) [] (.inl rfl) hl' h0,Xpw]
 |x::y::r,acc,hok,hl,hc=>by
  have h0:cnF acc x=0:=by have:=hc 0 (by simp);simpa using this
  have hl':acc.length<20:=by simp at hl;omega
  show rpL acc (Xc2 x++[32]++Xa0 [32] ((y::r).map Xc2))=_
  rw[List.append_assoc]
  show rpL acc (Xc2 x++(32::Xa0 [32] ((y::r).map Xc2)))=_
  rw[Xwk (hok x (List.mem_cons_self ..)) _ (.inr ⟨_,rfl⟩) hl' h0]
  show rpL (acc++[x]) (32::Xa0 [32] ((y::r).map Xc2))=_
  rw[Xn2 (by decide),Xr8 (y::r) (acc++[x]) (fun z hz=>hok z (List.mem_cons_of_mem _ hz)) (by simp at hl⊢;omega) (fun j h=>by
   have:=hc (j+1) (by simpa using h)
   simpa [List.append_assoc] using this)]
  simp
theorem Xwr {L:List (List Nat)} (h:Xer L=0):L.length≤20∧∀j (hj:j<L.length),cnF (L.take j) L[j]=0:=by
 rw[Xmo] at h
 unfold Xcc at h
 by_cases h20:20<L.length
 ·rw[if_pos h20] at h;cases h
 rw[if_neg h20] at h
 have key:∀j,j≤L.length→Xcz zF 7 (L.take j) (L.drop j)=0:=by
  intro j
  induction j with
  |zero=>intro _;exact h
  |succ j ih=>
   intro hj
   have:=ih (by omega)
   rw[Xm8 (by omega)] at this
   split at this
   ·rename_i hne;exact absurd this hne
   ·exact this
 refine⟨by omega,fun j hj=>?_⟩
 have:=key j (by omega)
 rw[Xm8 hj] at this
 by_cases hne:cnF (L.take j) L[j]≠0
 ·rw[if_pos hne] at this;exact absurd this hne
 ·simpa using hne
theorem Yal {refs:List (List Nat)} (hok:∀x∈refs,IdOk x) (h:Xer refs=0):rpL [] (Xa0 [32] (refs.map Xc2))=some refs:=by
 obtain⟨h1,h2⟩:=Xwr h
 have:=Xr8 refs [] hok (by simpa using h1) (fun j hj=>by simpa using h2 j hj)
 simpa using this
end Go.Proofs.YtohmdledkhgdaaaGreatDoor
/- The reference's hexadecimal texts: Author, Text, Digits (printed by gen_rhex.py). -/
namespace Go.Proofs.YtohmdledkhgdaaaGreatDoor
open Go.RowKit
set_option linter.unusedVariables false
set_option maxRecDepth 100000
theorem Xfv (x:Nat) (h:x<16):(⟨#[48,49,50,51,52,53,54,55,56,57,97,98,99,100,101,102]⟩:ByteArray).extract x (x+1)=Xaq [hxl x]:=by
 have:∀x:Fin 16,(⟨#[48,49,50,51,52,53,54,55,56,57,97,98,99,100,101,102]⟩:ByteArray).extract x.val (x.val+1)=Xaq [hxl x.val]:=by decide+kernel
 exact this ⟨x,h⟩
theorem Xcg (l m:List Nat):Xaq (l++m)=Xaq l++Xaq m:=by
 unfold Xaq
 apply ByteArray.ext
 simp[ByteArray.data_append]
set_option maxHeartbeats 2000000 in
theorem Xp1 (w:World) {l:List Nat} (hl:B16 l):
    Calls Tryz.prog 32 #[.agg (idA l)] w fun e w'=>e=.returned (.string (Xaq (Xbz l)))∧Below w.heap.size w w':=by
 obtain⟨w0,hw0⟩:∃w0,w0=w.alloc (.cells (idA l) 22):=⟨_,rfl⟩
 have B0:Hid (Below w.heap.size w w0):=Hd (by rw[hw0];exact(Below.refl _ _).alloc (Nat.le_refl _) _)
 have I0:Hid (IB w0 w.heap.size 22 l):=Hd (by unfold IB;rw[hw0];exact heap_alloc_last w _)
 have HL:=Hd hl
 obtain⟨cs,hcs⟩:∃cs,cs=idA l:=⟨_,rfl⟩
 rw[←hcs] at hw0⊢
 have HW:=Hd hw0
 have HP:Hid (Xbz (l.take 0)=[]):=Hd rfl
 clear hw0 hcs hl
 go_enter Tryz.func32,Tryz.ntmps32
 go_upto_region 1 with fail
 rw[←HW.out]
 clear HW
 go_wp2_with fail
 go_loopg [4,5] 16 (fun k s i wr=>∃j:Nat,j≤16∧k=16-j∧i=.int .i64 (j:Int)∧s=.string (Xaq (Xbz (l.take j)))∧Hid (Dr w0 wr))
 case atStart=>exact⟨0,by omega,rfl,rfl,rfl,Hd (Dr.refl _)⟩
 case round=>
  obtain⟨j,hj,rfl,rfl,rfl,hdr⟩:=hrel
  by_cases hlt:j<16
  ·have hjl:j<l.length:=by rw[HL.out.len];exact hlt
   obtain⟨c,hc⟩:∃c,c=l.getD j 0:=⟨_,rfl⟩
   have hc2:c<256:=by rw[hc,List.getD_eq_getElem?_getD,List.getElem?_eq_getElem hjl,Option.getD_some];exact HL.out.lt _ (List.getElem_mem hjl)
   have hst:=Xcm hjl hc
   have cc:wr.cell? ⟨w.heap.size,j,none⟩=some (.int .u8 (c:Int)):=by rw[hc];exact(I0.out.below (Dr.below hdr.out)).cell hjl
   obtain⟨x,hx⟩:∃x,x=c/16:=⟨_,rfl⟩
   obtain⟨y,hy⟩:∃y,y=c%16:=⟨_,rfl⟩
   rw[←hx,←hy] at hst
   have hx2:x<16:=by omega
   have hy2:y<16:=by omega
   obtain⟨s,hs⟩:∃s,s=Xaq (Xbz (l.take j)):=⟨_,rfl⟩
   have ST:Hid (s++Xaq [hxl x]++Xaq [hxl y]=Xaq (Xbz (l.take (j+1)))):=Hd (by
    rw[hs,hst,←Xcg,←Xcg];simp)
   have ST2:Hid (s++(Xaq [hxl x]++Xaq [hxl y])=Xaq (Xbz (l.take (j+1)))):=Hd (by
    rw[hs,hst,←Xcg,←Xcg];simp)
   have zs:s.size≤65:=by rw[hs,Xan];simp[Xbs];omega
   have e1:(c:Int)/16=(x:Int):=by omega
   have e2:(c:Int)%16=(y:Int):=by omega
   have e2t:(c:Int).tmod 16=(y:Int):=by rw[Int.tmod_eq_emod_of_nonneg (by omega)];omega
   have e1t:(c:Int).tdiv 16=(x:Int):=by rw[Int.tdiv_eq_ediv_of_nonneg (by omega)];omega
   have x1:=Xfv x hx2
   have y1:=Xfv y hy2
   have hx3:(x:Int)<16:=by omega
   have hy3:(y:Int)<16:=by omega
   have zx:(Xaq [hxl x]).size=1:=rfl
   have zy:(Xaq [hxl y]).size=1:=rfl
   have zsx:(s++Xaq [hxl x]).size≤66:=by rw[ByteArray.size_append];omega
   have zxy:(Xaq [hxl x]++Xaq [hxl y]).size≤2:=by rw[ByteArray.size_append];omega
   rw[←hs]
   clear hs hst hx hy hc hjl
   go_upto_region 6 with fail
   go_quiet (fail)
   first|rw[ST.out]|rw[ST2.out]
   go_wp2_with fail
   go_roundg (16-(j+1))
   case measure=>omega
   case rel=>exact⟨j+1,by omega,rfl,by go_num,rfl,Hd (Xk9 hdr.out ⟨nq,rfl⟩)⟩
  ·have hall:l.take j=l:=List.take_of_length_le (by rw[HL.out.len];omega)
   rw[hall]
   obtain⟨s,hs⟩:∃s,s=Xaq (Xbz l):=⟨_,rfl⟩
   have HS:=Hd hs
   have zs:s.size≤65:=by rw[hs,Xan];simp[Xbs,HL.out.len]
   rw[←hs]
   clear hs hall
   go_wp2_with fail
   go_ret
   exact⟨by rw[HS.out];rfl,B0.out.trans ((Dr.below hdr.out).mono B0.out.size)⟩
set_option maxHeartbeats 2000000 in
theorem Xwd (w:World) {l:List Nat} (hl:IdOk l):
    Calls Tryz.prog 75 #[.agg (idA l)] w fun e w'=>e=.returned (.string (Xaq (Xc2 l)))∧Below w.heap.size w w':=by
 obtain⟨w0,hw0⟩:∃w0,w0=w.alloc (.cells (idA l) 120):=⟨_,rfl⟩
 have B0:Hid (Below w.heap.size w w0):=Hd (by rw[hw0];exact(Below.refl _ _).alloc (Nat.le_refl _) _)
 have I0:Hid (IB w0 w.heap.size 120 l):=Hd (by unfold IB;rw[hw0];exact heap_alloc_last w _)
 have HL:=Hd hl
 obtain⟨cs,hcs⟩:∃cs,cs=idA l:=⟨_,rfl⟩
 rw[←hcs] at hw0⊢
 have HW:=Hd hw0
 have HP:Hid (Xbz (l.take 0)=[]):=Hd rfl
 clear hw0 hcs hl
 go_enter Tryz.func75,Tryz.ntmps75
 go_upto_region 1 with fail
 rw[←HW.out]
 clear HW
 go_wp2_with fail
 go_loopg [4,5] 32 (fun k s i wr=>∃j:Nat,j≤32∧k=32-j∧i=.int .i64 (j:Int)∧s=.string (Xaq (60::Xbz (l.take j)))∧Hid (Dr w0 wr))
 case atStart=>exact⟨0,by omega,rfl,rfl,rfl,Hd (Dr.refl _)⟩
 case round=>
  obtain⟨j,hj,rfl,rfl,rfl,hdr⟩:=hrel
  by_cases hlt:j<32
  ·have hjl:j<l.length:=by rw[HL.out.len];exact hlt
   obtain⟨c,hc⟩:∃c,c=l.getD j 0:=⟨_,rfl⟩
   have hc2:c<256:=by rw[hc,List.getD_eq_getElem?_getD,List.getElem?_eq_getElem hjl,Option.getD_some];exact HL.out.lt _ (List.getElem_mem hjl)
   have hst:=Xcm hjl hc
   have cc:wr.cell? ⟨w.heap.size,j,none⟩=some (.int .u8 (c:Int)):=by rw[hc];exact(I0.out.below (Dr.below hdr.out)).cell hjl
   obtain⟨x,hx⟩:∃x,x=c/16:=⟨_,rfl⟩
   obtain⟨y,hy⟩:∃y,y=c%16:=⟨_,rfl⟩
   rw[←hx,←hy] at hst
   have hx2:x<16:=by omega
   have hy2:y<16:=by omega
   obtain⟨s,hs⟩:∃s,s=Xaq (60::Xbz (l.take j)):=⟨_,rfl⟩
   have ST:Hid (s++Xaq [hxl x]++Xaq [hxl y]=Xaq (60::Xbz (l.take (j+1)))):=Hd (by
    rw[hs,hst,←Xcg,←Xcg];simp)
   have ST2:Hid (s++(Xaq [hxl x]++Xaq [hxl y])=Xaq (60::Xbz (l.take (j+1)))):=Hd (by
    rw[hs,hst,←Xcg,←Xcg];simp)
   have zs:s.size≤65:=by rw[hs,Xan];simp[Xbs];omega
   have e1:(c:Int)/16=(x:Int):=by omega
   have e2:(c:Int)%16=(y:Int):=by omega
   have e2t:(c:Int).tmod 16=(y:Int):=by rw[Int.tmod_eq_emod_of_nonneg (by omega)];omega
   have e1t:(c:Int).tdiv 16=(x:Int):=by rw[Int.tdiv_eq_ediv_of_nonneg (by omega)];omega
   have x1:=Xfv x hx2
   have y1:=Xfv y hy2
   have hx3:(x:Int)<16:=by omega
   have hy3:(y:Int)<16:=by omega
   have zx:(Xaq [hxl x]).size=1:=rfl
   have zy:(Xaq [hxl y]).size=1:=rfl
   have zsx:(s++Xaq [hxl x]).size≤66:=by rw[ByteArray.size_append];omega
   have zxy:(Xaq [hxl x]++Xaq [hxl y]).size≤2:=by rw[ByteArray.size_append];omega
   rw[←hs]
   clear hs hst hx hy hc hjl
   go_upto_region 6 with fail
   go_quiet (fail)
   first|rw[ST.out]|rw[ST2.out]
   go_wp2_with fail
   go_roundg (32-(j+1))
   case measure=>omega
   case rel=>exact⟨j+1,by omega,rfl,by go_num,rfl,Hd (Xk9 hdr.out ⟨nq,rfl⟩)⟩
  ·have hall:l.take j=l:=List.take_of_length_le (by rw[HL.out.len];omega)
   rw[hall]
   obtain⟨s,hs⟩:∃s,s=Xaq (60::Xbz l):=⟨_,rfl⟩
   have HS:=Hd hs
   have zs:s.size≤65:=by rw[hs,Xan];simp[Xbs,HL.out.len]
   rw[←hs]
   clear hs hall
   go_wp2_with fail
   go_ret
   exact⟨by show _=Ending.returned (Value.string (Xaq (60::Xbz l++sHash)));rw[HS.out,Xcg];rfl,B0.out.trans ((Dr.below hdr.out).mono B0.out.size)⟩
set_option maxHeartbeats 2000000 in
theorem Yaw (w:World) {l:List Nat} (hl:IdOk l):
    Calls Tryz.prog 125 #[.agg (idA l)] w fun e w'=>e=.returned (.string (Xaq (Xbz l)))∧Below w.heap.size w w':=by
 obtain⟨w0,hw0⟩:∃w0,w0=w.alloc (.cells (idA l) 124):=⟨_,rfl⟩
 have B0:Hid (Below w.heap.size w w0):=Hd (by rw[hw0];exact(Below.refl _ _).alloc (Nat.le_refl _) _)
 have I0:Hid (IB w0 w.heap.size 124 l):=Hd (by unfold IB;rw[hw0];exact heap_alloc_last w _)
 have HL:=Hd hl
 obtain⟨cs,hcs⟩:∃cs,cs=idA l:=⟨_,rfl⟩
 rw[←hcs] at hw0⊢
 have HW:=Hd hw0
 have HP:Hid (Xbz (l.take 0)=[]):=Hd rfl
 clear hw0 hcs hl
 go_enter Tryz.func125,Tryz.ntmps125
 go_upto_region 1 with fail
 rw[←HW.out]
 clear HW
 go_wp2_with fail
 go_loopg [3,4,5,6] 32 (fun k s i v5 v6 wr=>∃j:Nat,j≤32∧k=32-j∧i=.int .i64 (j:Int)∧s=.string (Xaq (Xbz (l.take j)))∧Hid (Dr w0 wr))
 case atStart=>exact⟨0,by omega,rfl,rfl,rfl,Hd (Dr.refl _)⟩
 case round=>
  obtain⟨j,hj,rfl,rfl,rfl,hdr⟩:=hrel
  by_cases hlt:j<32
  ·have hjl:j<l.length:=by rw[HL.out.len];exact hlt
   obtain⟨c,hc⟩:∃c,c=l.getD j 0:=⟨_,rfl⟩
   have hc2:c<256:=by rw[hc,List.getD_eq_getElem?_getD,List.getElem?_eq_getElem hjl,Option.getD_some];exact HL.out.lt _ (List.getElem_mem hjl)
   have hst:=Xcm hjl hc
   have cc:wr.cell? ⟨w.heap.size,j,none⟩=some (.int .u8 (c:Int)):=by rw[hc];exact(I0.out.below (Dr.below hdr.out)).cell hjl
   obtain⟨x,hx⟩:∃x,x=c/16:=⟨_,rfl⟩
   obtain⟨y,hy⟩:∃y,y=c%16:=⟨_,rfl⟩
   rw[←hx,←hy] at hst
   have hx2:x<16:=by omega
   have hy2:y<16:=by omega
   obtain⟨s,hs⟩:∃s,s=Xaq (Xbz (l.take j)):=⟨_,rfl⟩
   have ST:Hid (s++Xaq [hxl x]++Xaq [hxl y]=Xaq (Xbz (l.take (j+1)))):=Hd (by
    rw[hs,hst,←Xcg,←Xcg];simp)
   have ST2:Hid (s++(Xaq [hxl x]++Xaq [hxl y])=Xaq (Xbz (l.take (j+1)))):=Hd (by
    rw[hs,hst,←Xcg,←Xcg];simp)
   have zs:s.size≤65:=by rw[hs,Xan];simp[Xbs];omega
   have e1:(c:Int)/16=(x:Int):=by omega
   have e2:(c:Int)%16=(y:Int):=by omega
   have e2t:(c:Int).tmod 16=(y:Int):=by rw[Int.tmod_eq_emod_of_nonneg (by omega)];omega
   have e1t:(c:Int).tdiv 16=(x:Int):=by rw[Int.tdiv_eq_ediv_of_nonneg (by omega)];omega
   have x1:=Xfv x hx2
   have y1:=Xfv y hy2
   have hx3:(x:Int)<16:=by omega
   have hy3:(y:Int)<16:=by omega
   have zx:(Xaq [hxl x]).size=1:=rfl
   have zy:(Xaq [hxl y]).size=1:=rfl
   have zsx:(s++Xaq [hxl x]).size≤66:=by rw[ByteArray.size_append];omega
   have zxy:(Xaq [hxl x]++Xaq [hxl y]).size≤2:=by rw[ByteArray.size_append];omega
   rw[←hs]
   clear hs hst hx hy hc hjl
   go_upto_region 5 with fail
   go_quiet (fail)
   obtain⟨wk,hwk⟩:∃wk,wk=wr.drewN nq:=⟨_,rfl⟩
   have DK:Hid (Dr w0 wk):=Hd (Xk9 hdr.out ⟨nq,hwk⟩)
   rw[←hwk]
   clear hwk hdr cc
   have hdr:=DK
   go_upto_region 6 with fail
   go_quiet (fail)
   first|rw[ST.out]|rw[ST2.out]
   go_wp2_with fail
   go_roundg (32-(j+1))
   case measure=>omega
   case rel=>exact⟨j+1,by omega,rfl,by go_num,rfl,Hd (Xk9 hdr.out ⟨nq,rfl⟩)⟩
  ·have hall:l.take j=l:=List.take_of_length_le (by rw[HL.out.len];omega)
   rw[hall]
   obtain⟨s,hs⟩:∃s,s=Xaq (Xbz l):=⟨_,rfl⟩
   have HS:=Hd hs
   have zs:s.size≤65:=by rw[hs,Xan];simp[Xbs,HL.out.len]
   rw[←hs]
   clear hs hall
   go_wp2_with fail
   go_ret
   exact⟨by rw[HS.out];rfl,B0.out.trans ((Dr.below hdr.out).mono B0.out.size)⟩
set_option maxHeartbeats 1000000 in
theorem Yaq (w:World) {l:List Nat} (hl:IdOk l):
    Calls Tryz.prog 77 #[.agg (idA l)] w fun e w'=>e=.returned (.string (Xaq (Xc2 l)))∧Below w.heap.size w w':=by
 obtain⟨cs,hcs⟩:∃cs,cs=idA l:=⟨_,rfl⟩
 have D:=Hd (Yaw (w.alloc (.cells cs 124)) hl)
 have B0:Hid (Below w.heap.size w (w.alloc (.cells cs 124))):=Hd ((Below.refl _ _).alloc (Nat.le_refl _) _)
 have LD:=Hd (run_loadVar_row (P:=Tryz.prog) (w.alloc (.cells cs 124)) w.heap.size _ 124 cs _ _ (heap_alloc_last w _) Tryz.underlying124 rfl (by rw[hcs,Xag,hl.len];kernel_rfl))
 rw[←hcs] at D⊢
 obtain⟨t,ht⟩:∃t,t=Xaq (Xbz l):=⟨_,rfl⟩
 rw[←ht] at D
 have HT:=Hd ht
 have z1:t.size≤64:=by rw[ht,Xan,Xbs,hl.len];exact Nat.le_refl _
 have z2:((⟨#[60]⟩:ByteArray)++t).size≤65:=by rw[ByteArray.size_append];show 1+t.size≤_;omega
 clear ht hcs hl
 go_enter Tryz.func77,Tryz.ntmps77
 go_wp2_with ((with_reducible refine Xac 124 rfl _ rfl ?_);refine⟨_,_,rfl,LD.out,?_⟩)
 refine D.out.mono ?_
 rintro e w1 ⟨rfl,hb⟩
 have B1:=Hd (B0.out.trans (hb.mono B0.out.size))
 clear hb D LD
 go_wp2_with fail
 go_ret
 exact⟨by show _=Ending.returned (Value.string (Xaq (60::Xbz l++sHash)));rw[Xcg,show(60::Xbz l)=[60]++Xbz l from rfl,Xcg,←HT.out];rfl,B1.out⟩
set_option maxHeartbeats 1000000 in
theorem Yap (w:World) {l:List Nat} (hl:IdOk l):
    Calls Tryz.prog 35 #[.agg (idA l)] w fun e w'=>e=.returned (.string (Xaq (Xhf l)))∧Below w.heap.size w w':=by
 obtain⟨cs,hcs⟩:∃cs,cs=idA l:=⟨_,rfl⟩
 obtain⟨zs,hzs⟩:∃zs,zs=idA zero32:=⟨_,rfl⟩
 have zok:IdOk zero32:=⟨by simp[zero32],fun x hx=>by simp[zero32] at hx;omega⟩
 have BZ:Hid (∀w,(Instr.build 26 #[]).run Tryz.prog w=.ok (.agg zs) w):=Hd (fun w=>by rw[hzs];kernel_rfl)
 have EQ:Hid (∀w,(Op.equal 26 (.agg cs) (.agg zs)).run Tryz.prog w=.ok (decide (l=zero32)) w):=Hd (fun w=>by rw[hcs,hzs];exact Xuw w hl zok)
 have P:=Hd (Yaq (w.alloc (.cells cs 26)) hl)
 have B0:Hid (Below w.heap.size w (w.alloc (.cells cs 26))):=Hd ((Below.refl _ _).alloc (Nat.le_refl _) _)
 have LD:=Hd (run_loadVar_row (P:=Tryz.prog) (w.alloc (.cells cs 26)) w.heap.size _ 26 cs _ _ (heap_alloc_last w _) Tryz.underlying26 rfl (by rw[hcs,Xag,hl.len];exact Xbf))
 rw[←hcs] at P⊢
 obtain⟨q,hq⟩:∃q,q=decide (l=zero32):=⟨_,rfl⟩
 rw[←hq] at EQ
 have HQ:=Hd hq
 have OPT:Hid (Xhf l=if l=zero32 then[] else Xc2 l):=Hd rfl
 clear hcs hzs hl hq
 cases q
 ·have O2:Hid (Xhf l=Xc2 l):=Hd (by rw[OPT.out,if_neg (of_decide_eq_false HQ.out.symm)])
  go_enter Tryz.func35,Tryz.ntmps35
  go_wp2_with (first
   |((with_reducible refine Xac 26 rfl _ rfl ?_);refine⟨_,_,rfl,LD.out,?_⟩)
   |((with_reducible refine Xae 26 rfl rfl ?_);refine⟨_,BZ.out _,?_⟩)
   |((with_reducible refine Xc4 26 rfl _ _ rfl Xbw ?_);refine⟨_,_,_,rfl,rfl,EQ.out _,?_⟩))
  refine P.out.mono ?_
  rintro e w1 ⟨rfl,hb⟩
  have B1:=Hd (B0.out.trans (hb.mono B0.out.size))
  clear hb P LD
  go_wp2_with fail
  go_ret
  exact⟨by rw[O2.out];rfl,B1.out⟩
 ·have O2:Hid (Xhf l=[]):=Hd (by rw[OPT.out,if_pos (of_decide_eq_true HQ.out.symm)])
  go_enter Tryz.func35,Tryz.ntmps35
  go_wp2_with (first
   |((with_reducible refine Xac 26 rfl _ rfl ?_);refine⟨_,_,rfl,LD.out,?_⟩)
   |((with_reducible refine Xae 26 rfl rfl ?_);refine⟨_,BZ.out _,?_⟩)
   |((with_reducible refine Xc4 26 rfl _ _ rfl Xbw ?_);refine⟨_,_,_,rfl,rfl,EQ.out _,?_⟩))
  go_ret
  exact⟨by rw[O2.out];rfl,B0.out⟩
theorem Xom (c:List Nat) (x:List Nat):∀l:List (List Nat),Xa0 c (l++[x])=if l=[] then x else Xa0 c l++c++x
 |[]=>rfl
 |[y]=>by simp[Xa0]
 |y::z::r=>by
  have ih:=Xom c x (z::r)
  rw[if_neg (by simp)] at ih
  rw[if_neg (by simp)]
  show y++c++Xa0 c ((z::r)++[x])=_
  rw[ih]
  simp[Xa0]
theorem Xsr (c:Nat):∀(l:List (List Nat)) (j:Nat),(Xa0 [c] (l.take j)).length≤(Xa0 [c] l).length
 |[],_=>by simp
 |[y],j=>by cases j<;>simp[Xa0]
 |y::z::r,0=>by simp[Xa0]
 |y::z::r,1=>by simp[Xa0]
 |y::z::r,j+2=>by
  have ih:=Xsr c (z::r) (j+1)
  show(y++[c]++Xa0 [c] ((z::r).take (j+1))).length≤(y++[c]++Xa0 [c] (z::r)).length
  simp only[List.length_append] at ih⊢
  omega
def Xcl (c:Nat) (gs:List ByteArray):ByteArray:=Xaq (Xa0 [c] (gs.map bs))
theorem Xlu (c:Nat) (gs:List ByteArray) (g:ByteArray):Xcl c (gs++[g])=if gs=[] then g else Xcl c gs++Xaq [c]++g:=by
 unfold Xcl
 rw[List.map_append,List.map_cons,List.map_nil,Xom]
 by_cases h:gs=[]
 ·rw[if_pos h,if_pos (by rw[h];rfl),Xds]
 ·rw[if_neg h,if_neg (by simpa using h),Xcg,Xcg,Xds]
theorem Xon (c:Nat) (gs:List ByteArray) (j:Nat):(Xcl c (gs.take j)).size≤(Xcl c gs).size:=by
 unfold Xcl
 rw[Xan,Xan,List.map_take]
 exact Xsr c _ j
set_option maxHeartbeats 2000000 in
theorem Xn6 (w:World) (v:Value) (gs:List ByteArray) (c:Nat) (hr:SRow w v gs) (hn:gs.length≤1000000) (hl:(Xcl c gs).size≤100000000):
    Calls Tryz.prog 34 #[v,.string (Xaq [c])] w fun e w'=>e=.returned (.string (Xcl c gs))∧w=w':=by
 obtain⟨a,cap,rfl,hc,r⟩:=hr
 obtain⟨n,hnn⟩:∃n,n=gs.length:=⟨_,rfl⟩
 have HN:=Hd hnn;have R:=Hd r;have HL:=Hd hl
 rw[←hnn] at hn⊢
 obtain⟨sp,hsp⟩:∃s,s=Xaq [c]:=⟨_,rfl⟩
 have zsp:sp.size=1:=by rw[hsp];rfl
 have HSP:=Hd hsp
 rw[←hsp]
 clear hnn r hc hsp hl
 go_enter Tryz.func34,Tryz.ntmps34
 go_wp2_with fail
 go_loopg [5,6] n (fun k s i wr=>∃(j:Nat) (t:ByteArray),j≤n∧k=n-j∧i=.int .i64 (j:Int)∧s=.string t∧Hid (t=Xcl c (gs.take j))∧w=wr)
 case atStart=>exact⟨0,⟨#[]⟩,by omega,rfl,rfl,rfl,Hd rfl,rfl⟩
 case round=>
  obtain⟨j,t,hj,rfl,rfl,rfl,ht,rfl⟩:=hrel
  by_cases hlt:j<n
  ·have hl:j<gs.length:=by rw[←HN.out];exact hlt
   obtain⟨b,off,rfl,_,hcell⟩:=R.out (fun e=>by rw[e] at hl;simp at hl)
   obtain⟨g,hg⟩:∃g,g=gs[j]:=⟨_,rfl⟩
   have k1:w.cell? ⟨b,off+j,none⟩=some (.string g):=by rw[hg];exact hcell j hl
   have p1:=Xon c gs (j+1)
   have sn:=Xlu c (gs.take j) gs[j]
   rw[←List.take_succ_eq_append_getElem hl,←hg,←ht.out,←HSP.out] at sn
   have zt:t.size≤100000000:=by rw[ht.out];exact Nat.le_trans (Xon c gs j) HL.out
   have z0:(Xcl c (gs.take (j+1))).size≤100000000:=Nat.le_trans p1 HL.out
   by_cases h0:j=0
   ·subst h0
    have k0:w.cell? ⟨b,off,none⟩=some (.string g):=k1
    have N:Hid (t++g=Xcl c (gs.take (0+1))):=Hd (by
     rw[sn,if_pos (by simp),ht.out]
     apply ByteArray.ext
     simp[Xcl,Xa0,Xaq])
    have zg:g.size≤100000000:=by rw[sn,if_pos (by simp)] at z0;exact z0
    have zz:(t++g).size≤100000000:=by rw[N.out];exact Nat.le_trans p1 HL.out
    clear sn p1 hg hcell hl z0 ht
    go_wp2_with fail
    go_roundg (n-(0+1))
    case measure=>omega
    case rel=>exact⟨1,t++g,by omega,rfl,by go_num,rfl,N,rfl⟩
   ·have hne:gs.take j≠[]:=fun e=>by
       have h2:(gs.take j).length=0:=by rw[e];rfl
       rw[List.length_take] at h2
       omega
    rw[if_neg hne] at sn
    have N:Hid (t++sp++g=Xcl c (gs.take (j+1))):=Hd sn.symm
    have z1:(t++sp).size≤100000001:=by rw[ByteArray.size_append];omega
    have z2:(t++sp++g).size≤100000000:=by rw[N.out];exact z0
    have zg:g.size≤100000000:=by rw[ByteArray.size_append] at z2;omega
    have hp:(0:Int)<(j:Int):=by omega
    clear sn p1 hg hcell hl z0 ht hne
    go_wp2_with fail
    go_roundg (n-(j+1))
    case measure=>omega
    case rel=>exact⟨j+1,t++sp++g,by omega,rfl,by go_num,rfl,N,rfl⟩
  ·obtain rfl:j=n:=by omega
   have N:Hid (t=Xcl c gs):=Hd (by rw[ht.out,List.take_of_length_le (by rw[HN.out];exact Nat.le_refl _)])
   clear ht
   go_wp2_with fail
   go_ret
   exact⟨by rw[←N.out];rfl,rfl⟩
theorem Xm3 {P:Program} {o:Oper} {a:Act} (w:World) {t e:TypeId} {x:Operand} {v:Value} (ho:o.op=.buildSlice t 1 #[(0,x)]) (hx:a.eval x=v) (h:(Instr.buildSlice t 1 #[(0,v)]).run P w=.ok (.slice (some ⟨w.heap.size,0,none⟩) 1 1) (w.alloc (.cells #[v] e))):(execOp a.eval o).run P w=.ok (.value (.slice (some ⟨w.heap.size,0,none⟩) 1 1)) (w.alloc (.cells #[v] e)):=by
 unfold execOp
 rw[ho]
 simp only[List.map_toArray,List.map_cons,List.map_nil,hx]
 rw[Sem.run_bind,h]
 rfl
theorem Yio (w:World) (n:Int):(Instr.buildSlice 62 1 #[(0,.int .u8 n)]).run Tryz.prog w=.ok (.slice (some ⟨w.heap.size,0,none⟩) 1 1) (w.alloc (.cells #[.int .u8 n] 5)):=by kernel_rfl
theorem Xyw (w:World) (g d:Nat) (hd:d<256) (h:w.heap[g]?=some (.cells #[.int .u8 (d:Int)] 5 (0,0))):(convert 62 9 (.slice (some ⟨g,0,none⟩) 1 1)).run Tryz.prog w=.ok (.string (Xaq [d])) w:=by
 have:=run_convert_bytes_back (P:=Tryz.prog) w 62 9 5 ⟨g,0,none⟩ 1 [UInt8.ofNat d] Tryz.underlying62 Tryz.underlying5 Tryz.underlying9 (fun j hj=>by
  obtain rfl:j=0:=by simpa using hj
  show w.cell? ((⟨g,0,none⟩:Addr).add 0)=_
  rw[Addr.add_mid,cell_of_row w g (0+0) _ _ _ h]
  simp[Nat.mod_eq_of_lt hd])
 exact this
set_option maxHeartbeats 4000000 in
theorem Xw0:∀(k u:Nat) (hu:u<10^(k+1)) (h64:u<18446744073709551616) (hk:k≤30) (w:World),
    Calls Tryz.prog 76 #[.int .u64 (u:Int)] w fun e w'=>e=.returned (.string (Xaq (Xek k u)))∧Below w.heap.size w w':=by
 intro k
 induction k with
 |zero=>
  intro u hu h64 hk w
  have h10:(u:Int)<10:=by omega
  obtain⟨d,hd⟩:∃d,d=48+u:=⟨_,rfl⟩
  have hd2:d<256:=by omega
  have e1:(48:Int)+(u:Int)=(d:Int):=by omega
  have RES:Hid (Xaq (Xek 0 u)=Xaq [d]):=Hd (by show Xaq [48+u%10]=_;rw[hd,Nat.mod_eq_of_lt (by omega)])
  have HD2:=Hd hd2
  clear hd hu
  go_enter Tryz.func76,Tryz.ntmps76
  go_wp2_with (first
   |((with_reducible refine Xgi 62 9 rfl _ rfl ?_);refine⟨_,_,_,rfl,Xyw (w.alloc (.cells #[.int .u8 (d:Int)] 5)) w.heap.size d HD2.out (heap_alloc_last w _),?_⟩))
  go_ret
  exact⟨by rw[RES.out];rfl,(Below.refl _ _).alloc (Nat.le_refl _) _⟩
 |succ k ih=>
  intro u hu h64 hk w
  by_cases h10':u<10
  ·have h10:(u:Int)<10:=by omega
   obtain⟨d,hd⟩:∃d,d=48+u:=⟨_,rfl⟩
   have hd2:d<256:=by omega
   have e1:(48:Int)+(u:Int)=(d:Int):=by omega
   have RES:Hid (Xaq (Xek (k+1) u)=Xaq [d]):=Hd (by unfold Xek;rw[if_pos h10',hd])
   have HD2:=Hd hd2
   clear hd hu ih
   go_enter Tryz.func76,Tryz.ntmps76
   go_wp2_with (first
    |((with_reducible refine Xgi 62 9 rfl _ rfl ?_);refine⟨_,_,_,rfl,Xyw (w.alloc (.cells #[.int .u8 (d:Int)] 5)) w.heap.size d HD2.out (heap_alloc_last w _),?_⟩))
   go_ret
   exact⟨by rw[RES.out];rfl,(Below.refl _ _).alloc (Nat.le_refl _) _⟩
  ·have h10:¬((u:Int)<10):=by omega
   obtain⟨q,hq⟩:∃q,q=u/10:=⟨_,rfl⟩
   obtain⟨r,hr⟩:∃r,r=u%10:=⟨_,rfl⟩
   obtain⟨d,hd⟩:∃d,d=48+r:=⟨_,rfl⟩
   have hd2:d<256:=by omega
   have C:Hid (∀wx:World,Calls Tryz.prog 76 #[.int .u64 (q:Int)] wx fun e w'=>e=.returned (.string (Xaq (Xek k q)))∧Below wx.heap.size wx w'):=Hd (fun wx=>ih q (by rw[hq];rw[Nat.pow_succ] at hu;omega) (by omega) (by omega) wx)
   have RES:Hid (Xaq (Xek k q)++Xaq [d]=Xaq (Xek (k+1) u)):=Hd (by
    rw[←Xcg]
    conv=>rhs;unfold Xek
    rw[if_neg h10',hq,hd,hr])
   have zt:(Xaq (Xek k q)).size≤31:=by rw[Xan];have:=Xm6 k q;omega
   obtain⟨t,ht⟩:∃t,t=Xaq (Xek k q):=⟨_,rfl⟩
   rw[←ht] at C RES zt
   have e1:(u:Int)/10=(q:Int):=by omega
   have e1t:(u:Int).tdiv 10=(q:Int):=by rw[Int.tdiv_eq_ediv_of_nonneg (by omega)];omega
   have e2:(u:Int)%10=(r:Int):=by omega
   have e2t:(u:Int).tmod 10=(r:Int):=by rw[Int.tmod_eq_emod_of_nonneg (by omega)];omega
   have e3:(48:Int)+(r:Int)=(d:Int):=by omega
   have e4:((48:Int)+(r:Int))%18446744073709551616=(d:Int):=by omega
   have e5:(d:Int)%256=(d:Int):=by omega
   have e6:(d:Int)%18446744073709551616=(d:Int):=by omega
   have zd:(Xaq [d]).size=1:=rfl
   have zt2:t.size≤9223372036854775806:=by omega
   have w1:IntKind.u64.wrap (q:Int)=(q:Int):=IntWalk.u64_in _ (by omega)
   have w2:IntKind.u64.wrap (d:Int)=(d:Int):=IntWalk.u64_in _ (by omega)
   have w3:IntKind.u8.wrap (d:Int)=(d:Int):=IntWalk.u8_in _ (by omega)
   have w4:IntKind.u64.wrap (r:Int)=(r:Int):=IntWalk.u64_in _ (by omega)
   have za:(t++Xaq [d]).size≤32:=by rw[ByteArray.size_append];omega
   have HD2:=Hd hd2
   obtain⟨sd,hsd⟩:∃sd,sd=Xaq [d]:=⟨_,rfl⟩
   rw[←hsd] at RES zd za
   have HSD:=Hd hsd
   clear hq hr hd hu ih ht hsd
   go_enter Tryz.func76,Tryz.ntmps76
   go_upto_region 3 with fail
   refine wp_region_any (by kernel_rfl) ?_
   change wpAny _ _ _ _ _ _ _ w.drew
   obtain⟨wd,hwd⟩:∃wd,wd=w.drew:=⟨_,rfl⟩
   rw[←hwd]
   have BD0:Hid (Below w.heap.size w wd):=Hd (by rw[hwd];exact(Below.refl _ _).drew)
   clear hwd
   refine wpAny_take (i:=0) (v:=.int .u64 (u:Int)) rfl (by kernel_rfl) (by kernel_rfl) (by kernel_rfl) (fun _ _ _ h=>h) (Or.inl ⟨by kernel_rfl,fun w'=>by go_simp⟩) ?_
   refine wpAny_take (i:=1) (v:=.int .u64 (q:Int)) rfl (by kernel_rfl) (by kernel_rfl) (by kernel_rfl) (fun _ _ _ h=>h) (Or.inl ⟨by kernel_rfl,fun w'=>by go_simp⟩) ?_
   refine wpAny_take (i:=3) (v:=.int .u64 (u:Int)) rfl (by kernel_rfl) (by kernel_rfl) (by kernel_rfl) (fun _ _ _ h=>h) (Or.inl ⟨by kernel_rfl,fun w'=>by go_simp⟩) ?_
   refine wpAny_take (i:=4) (v:=.int .u64 (r:Int)) rfl (by kernel_rfl) (by kernel_rfl) (by kernel_rfl) (fun _ _ _ h=>h) (Or.inl ⟨by kernel_rfl,fun w'=>by go_simp⟩) ?_
   refine wpAny_take (i:=5) (v:=.int .u64 (d:Int)) rfl (by kernel_rfl) (by kernel_rfl) (by kernel_rfl) (fun _ _ _ h=>h) (Or.inl ⟨by kernel_rfl,fun w'=>by go_simp⟩) ?_
   refine wpAny_take (i:=6) (v:=.int .u8 (d:Int)) rfl (by kernel_rfl) (by kernel_rfl) (by kernel_rfl) (fun _ _ _ h=>h) (Or.inl ⟨by kernel_rfl,fun w'=>by go_simp⟩) ?_
   refine Xnf (i:=2) (k:=7) (by kernel_rfl) ?_ ?_
   ·skip
    refine Xao (f:=76) (args:=#[.int .u64 (q:Int)]) rfl rfl (by kernel_rfl) ?_
    refine(C.out wd).mono ?_
    rintro e y1 ⟨rfl,hb⟩
    have By1:=Hd (BD0.out.trans (hb.mono BD0.out.size))
    clear hb
    refine⟨_,rfl,?_⟩
    refine Xbc (i:=7) (by kernel_rfl) ?_
    refine Xd9 rfl rfl (Xm3 y1 rfl (by kernel_rfl) (Yio y1 (d:Int))) ?_
    obtain⟨y2,hy2⟩:∃x,x=y1.alloc (.cells #[.int .u8 (d:Int)] 5):=⟨_,rfl⟩
    rw[←hy2]
    have By2:Hid (Below w.heap.size w y2):=Hd (by rw[hy2];exact By1.out.alloc By1.out.size _)
    have AB:Hid (y2.heap[y1.heap.size]?=some (.cells #[.int .u8 (d:Int)] 5 (0,0))):=Hd (by rw[hy2];exact heap_alloc_last y1 _)
    obtain⟨g,hg⟩:∃g,g=y1.heap.size:=⟨_,rfl⟩
    rw[←hg] at AB⊢
    clear hy2 hg
    refine Xbc (i:=8) (by kernel_rfl) ?_
    have CV:=Xyw y2 g d HD2.out AB.out
    rw[←HSD.out] at CV
    refine Xbm rfl rfl (Xd7 (s:=62) (d:=9) (x:=.tmp 17) (u:=.slice (some ⟨g,0,none⟩) 1 1) rfl (by kernel_rfl) CV) ?_
    clear CV
    refine Xbc (i:=9) (by kernel_rfl) ?_
    refine Xbm (v:=.string (t++sd)) rfl rfl (by go_simp) ?_
    refine Xbc (i:=10) (by kernel_rfl) ?_
    refine Xbm (v:=.string (t++sd)) rfl rfl (by go_simp) ?_
    refine wpAny_done (by kernel_rfl) ?_ _
    go_simp
    refine‹∀(a:Act) (w_1:World),_→_› _ _ ?_
    go_wp2_with fail
    go_ret
    exact⟨by rw[←RES.out];rfl,By2.out⟩
   ·skip
    refine Xd9 rfl rfl (Xm3 wd rfl (by kernel_rfl) (Yio wd (d:Int))) ?_
    obtain⟨y3,hy3⟩:∃x,x=wd.alloc (.cells #[.int .u8 (d:Int)] 5):=⟨_,rfl⟩
    rw[←hy3]
    have By3:Hid (Below w.heap.size w y3):=Hd (by rw[hy3];exact BD0.out.alloc BD0.out.size _)
    have AB:Hid (y3.heap[wd.heap.size]?=some (.cells #[.int .u8 (d:Int)] 5 (0,0))):=Hd (by rw[hy3];exact heap_alloc_last wd _)
    obtain⟨g,hg⟩:∃g,g=wd.heap.size:=⟨_,rfl⟩
    rw[←hg] at AB⊢
    clear hy3 hg
    refine Xnf (i:=2) (k:=8) (by kernel_rfl) ?_ ?_
    ·skip
     refine Xao (f:=76) (args:=#[.int .u64 (q:Int)]) rfl rfl (by kernel_rfl) ?_
     refine(C.out y3).mono ?_
     rintro e y4 ⟨rfl,hb⟩
     have By4:=Hd (By3.out.trans (hb.mono By3.out.size))
     replace AB:=Hd ((hb.block _ (lt_of_block AB.out)).trans AB.out)
     clear hb
     refine⟨_,rfl,?_⟩
     refine Xbc (i:=8) (by kernel_rfl) ?_
     have CV:=Xyw y4 g d HD2.out AB.out
     rw[←HSD.out] at CV
     refine Xbm rfl rfl (Xd7 (s:=62) (d:=9) (x:=.tmp 17) (u:=.slice (some ⟨g,0,none⟩) 1 1) rfl (by kernel_rfl) CV) ?_
     clear CV
     refine Xbc (i:=9) (by kernel_rfl) ?_
     refine Xbm (v:=.string (t++sd)) rfl rfl (by go_simp) ?_
     refine Xbc (i:=10) (by kernel_rfl) ?_
     refine Xbm (v:=.string (t++sd)) rfl rfl (by go_simp) ?_
     refine wpAny_done (by kernel_rfl) ?_ _
     go_simp
     refine‹∀(a:Act) (w_1:World),_→_› _ _ ?_
     go_wp2_with fail
     go_ret
     exact⟨by rw[←RES.out];rfl,By4.out⟩
    ·skip
     have CV:=Xyw y3 g d HD2.out AB.out
     rw[←HSD.out] at CV
     refine Xbm rfl rfl (Xd7 (s:=62) (d:=9) (x:=.tmp 17) (u:=.slice (some ⟨g,0,none⟩) 1 1) rfl (by kernel_rfl) CV) ?_
     clear CV
     refine Xbc (i:=2) (by kernel_rfl) ?_
     refine Xao (f:=76) (args:=#[.int .u64 (q:Int)]) rfl rfl (by kernel_rfl) ?_
     refine(C.out y3).mono ?_
     rintro e y5 ⟨rfl,hb⟩
     have By5:=Hd (By3.out.trans (hb.mono By3.out.size))
     replace AB:=Hd ((hb.block _ (lt_of_block AB.out)).trans AB.out)
     clear hb
     refine⟨_,rfl,?_⟩
     refine Xbc (i:=9) (by kernel_rfl) ?_
     refine Xbm (v:=.string (t++sd)) rfl rfl (by go_simp) ?_
     refine Xbc (i:=10) (by kernel_rfl) ?_
     refine Xbm (v:=.string (t++sd)) rfl rfl (by go_simp) ?_
     refine wpAny_done (by kernel_rfl) ?_ _
     go_simp
     refine‹∀(a:Act) (w_1:World),_→_› _ _ ?_
     go_wp2_with fail
     go_ret
     exact⟨by rw[←RES.out];rfl,By5.out⟩
theorem Xgp (n:Int) (h0:0≤n) (h1:n≤9223372036854775807) (w:World):
    Calls Tryz.prog 33 #[.int .i64 n] w fun e w'=>e=.returned (.string (Xaq (Xd1 n)))∧Below w.heap.size w w':=by
 obtain⟨u,rfl⟩:∃u:Nat,n=u:=⟨n.toNat,by omega⟩
 have P:=Hd (Xw0 20 u (by omega) (by omega) (by omega) w)
 have R:Hid (Xd1 (u:Int)=Xek 20 u):=Hd (by rw[Xi3 (by omega)];rfl)
 have hn:¬((u:Int)<0):=by omega
 have e1:(u:Int)%18446744073709551616=(u:Int):=by omega
 obtain⟨t,ht⟩:∃t,t=Xaq (Xek 20 u):=⟨_,rfl⟩
 rw[←ht] at P
 have HT:=Hd ht
 clear ht
 go_enter Tryz.func33,Tryz.ntmps33
 go_wp2_with fail
 refine P.out.mono ?_
 rintro e w1 ⟨rfl,hb⟩
 have B:=Hd hb
 clear hb P
 go_wp2_with fail
 go_ret
 exact⟨by rw[R.out,←HT.out];rfl,B.out⟩
end Go.Proofs.YtohmdledkhgdaaaGreatDoor
