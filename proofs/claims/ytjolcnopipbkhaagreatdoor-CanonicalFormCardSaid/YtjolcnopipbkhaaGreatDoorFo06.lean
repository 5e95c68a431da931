/- ascii.Digits, signer.PublicText, canonical.keyText. -/
import Derived.Test.YtjolcnopipbkhaaGreatDoorFo05
import Derived.Lib.ItoaLen
import Derived.DeepKeys3
namespace Go.Proofs.YtjolcnopipbkhaaGreatDoor
open Go.Proofs.Tryz
open Go.RowKit Go.Maps
set_option linter.unusedVariables false
set_option maxHeartbeats 100000000
set_option maxRecDepth 100000
theorem Xxa (w:World)(k:Nat)(os:Array Obj):Bw w (Go.Sort.grow (w.drewN k) os):=
 ⟨rfl,rfl,rfl,by simp[Go.Sort.grow,World.drewN],fun b hb=>by simp[Go.Sort.grow,World.drewN,Array.getElem?_append,hb]⟩
def Yb4 (n:Int)(w:World)(e:Ending)(w':World):Prop:=∃t:ByteArray,e=.returned (.string t)∧bs t=Xdq n∧t.size≤21∧Bw w w'
theorem Xog:∀(k u:Nat),(Xes k u).length≤k+1
 |0,_=>by simp[Xes]
 |k+1,u=>by
  unfold Xes;split
  ·simp
  ·have:=Xog k (u/10);simp;omega
theorem Xlj (n:Int)(h0:-9223372036854775808≤n)(h1:n≤9223372036854775807)(w:World)(hE:Env w):
    Calls prog 38 #[.int .i64 n] w (Yb4 n w):=by
 obtain⟨t,ht⟩:∃t:ByteArray,t=⟨(Lib.itoa n).toArray⟩:=⟨_,rfl⟩
 have I:Hid (zJ 81 #[.int .i64 n] w (.string t)):=Hd ((Xk2 n h0 h1 w hE.pow).mono fun e w' ⟨a,k,os,b⟩=>⟨by rw[ht];exact a,by rw[b];exact Xxa w k os⟩)
 have B:Hid (bs t=Xdq n):=Hd (by rw[ht,Xjo];exact Xzw n h0 h1)
 have S:Hid (t.size≤21):=Hd (by
  have hb:=ht
  have:=Lib.itoa_length_le n h0 h1
  rw[ht];simpa [ByteArray.size] using this)
 clear ht h0 h1 hE
 go_enter func38,ntmps38
 go_wp2_with fail
 refine I.o.mono ?_
 rintro e w1 ⟨rfl,hb⟩
 have HB:=Hd hb
 clear hb I
 go_wp2_with fail
 go_ret
 exact⟨t,rfl,B.o,S.o,HB.o⟩
theorem Xrl (w:World)(h:Nat)(h1:1≤h)(h8:h≤8){r:List Nat}(hr:B16 r):
    Calls prog 129 #[.agg (pkC h r)] w fun e w'=>∃b cap,e=.returned (.slice (some ⟨b,0,none⟩) 17 cap)∧Rd w' (some ⟨b,0,none⟩) (h::r)∧Bw w w':=by
 obtain⟨i0,hi0,hz0,hz1,hz2⟩:=info_parts Xhw
 have c0:=Yhi h r
 obtain⟨cs,hcs⟩:=xq (pkC h r)
 rw[←hcs] at c0⊢
 have cv:IntKind.u8.wrap (h:Int)=(h:Int):=by rw[IntKind.wrap_u8];omega
 have NW:Hid (∀w':World,w'.heap[w.heap.size]?=some (.cells cs 37 (0,0))→∀k u,(r.map U)[k]?=some u→w'.cell? ⟨w.heap.size,1+k,none⟩=some u):=Hd (fun w' hw k u hu=>by
  rw[cell_of_row _ _ _ _ _ _ hw,hcs];unfold pkC;rw[Nat.add_comm];simpa using hu)
 have HR:=Hd hr
 clear hcs hr
 go_enter func129,ntmps129
 go_wp2_with fail
 have OWN:Hid ((((w.alloc (.cells cs 37)).drew).alloc (.cells #[.int .u8 (h:Int)] 5)).ownsRow w.heap.size 5 1 (.slice (some ⟨w.heap.size+1,0,none⟩) 1 1) 1 [.int .u8 (h:Int)]):=Hd
  ⟨rfl,.inr ⟨w.heap.size+1,1,#[.int .u8 (h:Int)],rfl,by omega,by have:=zN ((w.alloc (.cells cs 37)).drew) (.cells #[.int .u8 (h:Int)] 5);simpa using this,zL _,by unfold maxLen;omega,rfl,rfl⟩⟩
 have NEWS:Hid (∀j u,(r.map U)[j]?=some u→(((w.alloc (.cells cs 37)).drew).alloc (.cells #[.int .u8 (h:Int)] 5)).cell? ((⟨w.heap.size,1,none⟩:Addr).add j)=some u):=Hd (fun j u hu=>by
  have hadd:(⟨w.heap.size,1,none⟩:Addr).add j=⟨w.heap.size,1+j,none⟩:=by unfold Addr.add;split<;>simp_all
  rw[hadd]
  exact NW.o _ (Xae (zN w _)) j u hu)
 have ONE:Hid (∀u∈r.map U,u.oneCell'=true):=Hd (fun u hu=>by obtain⟨n,_,rfl⟩:=List.mem_map.1 hu;rfl)
 have BEL:Hid (Bw w (((w.alloc (.cells cs 37)).drew).alloc (.cells #[.int .u8 (h:Int)] 5))):=Hd ((((zR _ w).alloc (zL _) _).drew).alloc (by simp) _)
 go_region_law ((refine step_append_lies _ (by rfl) _ _ _ (by rfl) w.heap.size 5 i0 _ 1 1 underlying82 hi0 hz0 hz1 hz2 rfl (by omega) (.slice (some ⟨w.heap.size+1,0,none⟩) 1 1) 1 [.int .u8 (h:Int)] (by rfl) OWN.o ⟨w.heap.size,1,none⟩ 16 16 (r.map U) (by rfl) (by rw[List.length_map,HR.o.len]) NEWS.o ONE.o (by omega) (by unfold maxLen;omega) (by omega) (by simp;omega) (w.heap.size+2) (by simp) ?_;intro gg cap' w1 hown1 hgrow hat hlt2))
 all_goals
  have O1:=Hd hown1
  have B1:Hid (Bw w w1):=Hd (Below.grown BEL.o hgrow (by simp;omega) (fun k hk=>(OWN.o.lt k hk).1))
  clear hown1 hgrow hat hlt2
  go_wp2_with fail
  go_ret
  refine⟨gg,cap',rfl,⟨fun x hx=>?_,fun _=>⟨gg,0,rfl,?_,fun i hi=>?_⟩⟩,B1.o⟩
  ·rcases List.mem_cons.1 hx with rfl|hx
   ·omega
   ·exact HR.o.lt x hx
  ·exact(O1.o.lt gg rfl).2
  ·have hi17:i<17:=by simpa [HR.o.len] using hi
   rw[Nat.zero_add,O1.o.cellAt i (by omega)]
   have:((.int .u8 (h:Int)::r.map U:List Value))[i]?=some (U (h::r)[i]):=by
    have e:(.int .u8 (h:Int)::r.map U:List Value)=(h::r).map U:=rfl
    rw[e,List.getElem?_map,List.getElem?_eq_getElem hi];rfl
   exact this
def Ylz (h:Int)(r:List Nat)(w:World)(e:Ending)(w':World):Prop:=
 ∃t:ByteArray,e=.returned (.tuple #[.string t,.int .i64 (eIf (!Xav h) 2:Nat)])∧(Xav h=true→bs t=Xfk ((h%256).toNat::r))∧t.size≤1000∧Bw w w'
theorem Xyx (w:World)(h:Int){r:List Nat}(hr:B16 r)(hE:Env w):
    Calls prog 80 #[.agg (pkC h r)] w (Ylz h r w):=by
 have LD:Hid (∀w',Below (w.alloc (.cells (pkC h r) 37)).heap.size (w.alloc (.cells (pkC h r) 37)) w'→Ld 37 ⟨w.heap.size,0,none⟩ w' (.agg (pkC h r))):=Hd (fun w' hb=>
  Xru w' w.heap.size 0 (h:=h) hr.len (Xgg _ _ _ _ _ ((hb.block w.heap.size (by simp)).trans (heap_alloc_last w _))))
 have P:=Hd (Xfb (w.alloc (.cells (pkC h r) 37)) h hr.len)
 have LD0:=Hd (LD.o _ (zR _ _))
 have B0:Hid (Bw w (w.alloc (.cells (pkC h r) 37))):=Hd ((zR _ _).alloc (zL _) _)
 have HE:=Hd hE
 obtain⟨b,hb⟩:=xq (Xav h)
 rw[←hb] at P
 have HB:=Hd hb
 cases b
 ·obtain⟨cs,hcs⟩:=xq (pkC h r)
  rw[←hcs] at P LD0 B0⊢
  clear hcs hr hE LD hb
  go_enter func80,ntmps80
  go_upto_region 1 with fail
  refine wp_region_list ?_
  simp only[]
  refine Xac 37 rfl _ rfl ⟨_,_,rfl,LD0.o,?_⟩
  go_wp2_with fail
  refine P.o.mono ?_
  rintro e w1 ⟨rfl,hb1⟩
  have B1:=bh B0 hb1
  have q:(((eIf (!false) 2:Nat):Int) !=0)=true:=by decide
  clear hb1
  go_wp2_with fail
  go_ret2
  exact⟨⟨#[]⟩,by rw[←HB.o];rfl,(fun h=>by rw[←HB.o] at h;cases h),by decide,B1.o⟩
 ·have hh:1≤h∧h≤8:=by unfold Xav at hb;have:=hb.symm;simpa using this
  obtain⟨k,rfl⟩:∃k:Nat,h=(k:Int):=⟨h.toNat,by omega⟩
  have BY:Hid (∀w',Calls prog 129 #[.agg (pkC k r)] w' fun e w''=>∃b cap,e=.returned (.slice (some ⟨b,0,none⟩) 17 cap)∧Rd w'' (some ⟨b,0,none⟩) (k::r)∧Below w'.heap.size w' w''):=Hd (fun w'=>Xrl w' k (by omega) (by omega) hr)
  have EN:Hid (∀(w':World) (b cap:Nat),Rd w' (some ⟨b,0,none⟩) (k::r)→Tab w'→Calls prog 128 #[.slice (some ⟨b,0,none⟩) 17 cap] w' fun e w''=>e=.returned (.tuple #[.string (Xaq (Xfk (k::r))),.int .i64 0])∧Below w'.heap.size w' w''):=Hd (fun w' b cap hrd ht=>by
   have:=Xsg w' (some ⟨b,0,none⟩) cap (k::r) (by simp[hr.len]) hrd ht
   simpa [hr.len] using this)
  have KM:Hid (((k:Int)%256).toNat=k):=Hd (by omega)
  have EL:Hid (bs (Xaq (Xfk (k::r)))=Xfk (k::r)):=Hd (Xci _ (Yav _))
  have ES:Hid ((Xaq (Xfk (k::r))).size≤1000):=Hd (by
   rw[Xan]
   rw[Xjz (k::r) (fun x hx=>by rcases List.mem_cons.1 hx with rfl|hx;· omega
                               exact hr.lt x hx)]
   simp[hr.len])
  obtain⟨cs,hcs⟩:=xq (pkC k r)
  rw[←hcs] at P LD0 B0 LD BY⊢
  clear hcs hr hE hb hh
  go_enter func80,ntmps80
  go_upto_region 1 with fail
  refine wp_region_list ?_
  simp only[]
  refine Xac 37 rfl _ rfl ⟨_,_,rfl,LD0.o,?_⟩
  go_wp2_with fail
  refine P.o.mono ?_
  rintro e w1 ⟨rfl,hb1⟩
  have B1:=bh B0 hb1
  have LD1:=Hd (LD.o w1 hb1)
  have q:(((eIf (!true) 2:Nat):Int) !=0)=false:=by decide
  clear hb1 LD LD0
  go_upto_region 4 with fail
  refine wp_region_list ?_
  simp only[]
  refine Xac 37 rfl _ rfl ⟨_,_,rfl,LD1.o,?_⟩
  go_wp2_with fail
  refine(BY.o _).mono ?_
  rintro e w2 ⟨b,cap,rfl,hrd,hb2⟩
  have B2:=bh B1 hb2
  have E2:=Hd (EN.o w2 b cap hrd (HE.o.on B2.o).tab)
  clear hrd hb2 BY EN LD1
  go_wp2_with fail
  refine E2.o.mono ?_
  rintro e w3 ⟨rfl,hb3⟩
  have B3:=bh B2 hb3
  clear hb3 E2
  go_wp2_with fail
  go_ret2
  exact⟨_,by rw[←HB.o];rfl,(fun _=>by rw[KM.o];exact EL.o),ES.o,B3.o⟩
def BRow (w:World)(B:Nat)(a:Option Addr)(l:List Nat):Prop:=
 l≠[]→∃b off,a=some ⟨b,off,none⟩∧b<w.heap.size∧b≠B∧∀j (h:j<l.length),w.cell? ⟨b,off+j,none⟩=some (U l[j])
structure RS (w:World) (B:Nat) (l:List Nat) (er:Nat) (a:Option Addr) (cap:Nat):Prop where
 blk:w.heap[B]?=some (.cells #[.slice a l.length cap,.int .i64 (er:Int)] 261 (0,0))
 row:BRow w B a l
 cp:l.length≤cap
theorem BRow.mono {w w':World}{B:Nat}{a:Option Addr}{l:List Nat}(h:BRow w B a l)(hf:Fr1 B w w'):BRow w' B a l:=by
 intro hne
 obtain⟨b,off,h1,h2,h3,h4⟩:=h hne
 exact⟨b,off,h1,Nat.lt_of_lt_of_le h2 hf.size,h3,fun j hj=>by
  have:=hf.other b h2 h3
  have h5:=h4 j hj
  unfold World.cell? at h5⊢
  simp only[this]
  exact h5⟩
theorem Xrc (s:ByteArray)(w:World)(hs:s.size≤1000000)(hE:Env w):
    Calls prog 153 #[.string s] w fun e w'=>∃B a cap,e=.returned (.pointer (some ⟨B,0,none⟩))∧w.heap.size≤B∧RS w' B (Xct (bs s)).1 (Xct (bs s)).2.2 a cap∧Bw w w':=by
 have D:Hid (Calls prog 209 #[.string s] w (Xov w (Xct (bs s)))):=Hd (by
  by_cases h:174764<s.size
  ·exact Xsi s w (by unfold maxLen;omega) h
  ·exact Xqj s w (by omega) hE.tab)
 obtain⟨r,hr⟩:=xq (Xct (bs s))
 rw[←hr] at D⊢
 clear hE hr
 go_enter func153,ntmps153
 go_wp2_with fail
 refine D.o.mono ?_
 rintro e w1 ⟨v,rfl,hown,hb⟩
 have hsh:∃a cap,v=.slice a r.1.length cap∧r.1.length≤cap∧(r.1≠[]→∃b off,a=some ⟨b,off,none⟩∧b<w1.heap.size∧∀j (h:j<r.1.length),w1.cell? ⟨b,off+j,none⟩=some (U r.1[j])):=by
  rcases hown.2 with⟨rfl,h0⟩|⟨g,cap,cur,rfl,hb,hg,hc,_,hs,ht⟩
  ·exact⟨none,0,by rw[h0],by rw[h0];exact zL _,fun hne=>absurd (List.length_eq_zero_iff.1 h0) hne⟩
  ·refine⟨some ⟨g,0,none⟩,cap,rfl,hc,fun _=>⟨g,0,rfl,zY hg,fun j hj=>?_⟩⟩
   rw[Nat.zero_add,cell_of_row w1 g j _ _ _ hg]
   have e1:(cur.toList.take (r.1.length*1))[j]?=some (U r.1[j]):=by rw[ht];simp[hj]
   rw[List.getElem?_take,qP (by omega)] at e1
   simpa using e1
 obtain⟨a,cap,rfl,hcap,hrow⟩:=hsh
 have HR:=Hd hrow;have HB:=Hd hb
 clear hrow hb hown D
 go_wp2_with fail
 go_ret
 refine⟨w1.heap.size,a,cap,rfl,HB.o.size,⟨zN w1 _,fun hne=>?_,hcap⟩,HB.o.alloc HB.o.size _⟩
 obtain⟨b,off,h1,h2,h3⟩:=HR.o hne
 exact⟨b,off,h1,by simp;omega,by omega,fun j hj=>by rw[←h3 j hj];exact(((zR _ w1).alloc (zL _) _).cell (p:=⟨b,off+j,none⟩) h2)⟩
def Yb0 (w:World)(B n:Nat)(l:List Nat)(er:Nat)(e:Ending)(w':World):Prop:=
 ∃(x l':List Nat) (er':Nat) (ax al:Option Addr) (cx cl:Nat),e=.returned (.slice ax n cx)∧n≤cx∧x.length=n∧BRow w' B ax x∧RS w' B l' er' al cl∧Fr1 B w w'∧
  ((er=0∧n≤l.length∧x=l.take n∧l'=l.drop n∧er'=0)∨(l'=l∧er'=(if er=0 then 4 else er)∧x=List.replicate n 0∧(er=0→l.length<n)))
theorem BRow.drop {w:World}{B b off:Nat}{l:List Nat}(n:Nat)(hn:n≤l.length)(h:BRow w B (some ⟨b,off,none⟩) l):BRow w B (some ⟨b,off+n,none⟩) (l.drop n):=by
 intro hne
 have hl:n<l.length:=by
  rcases Nat.lt_or_ge n l.length with h|h
  ·exact h
  ·exact absurd (List.drop_of_length_le h) hne
 obtain⟨b',off',e,h2,h3,h4⟩:=h (fun e=>by rw[e] at hl;simp at hl)
 cases e
 exact⟨b,off+n,rfl,h2,h3,fun j hj=>by rw[Nat.add_assoc,h4 (n+j) (by simp at hj;omega)];simp⟩
theorem BRow.take {w:World}{B:Nat}{a:Option Addr}{l:List Nat}(n:Nat)(h:BRow w B a l):BRow w B a (l.take n):=by
 intro hne
 obtain⟨b',off',e,h2,h3,h4⟩:=h (fun e=>by rw[e] at hne;simp at hne)
 exact⟨b',off',e,h2,h3,fun j hj=>by rw[h4 j (by simp at hj;omega)];simp⟩
theorem Xv9 (W:World)(n:Nat)(hn:n≤16):(Instr.makeSlice 82 (.int .i64 (n:Int)) (.int .i64 (n:Int))).run prog W=.ok (.slice (some ⟨W.heap.size,0,none⟩) n n) (W.alloc (.cells (idA (List.replicate n 0)) 5)):=by
 obtain⟨i0,hi0,hz0,hz1,hz2⟩:=info_parts Xhw
 have:=run_makeSlice (P:=prog) (w:=W) 82 5 i0 (.int .u8 0) underlying82 hi0 hz0 .i64 .i64 (n:Int) (n:Int) (by omega) (by omega) (by rw[hz1];simp;omega) (by rw[hz2];omega) (by omega)
 rw[this,hz1]
 have e:madeCells (Value.cells (.int .u8 0)) ((n:Int).toNat*1)=idA (List.replicate n 0):=by
  simp only[Int.toNat_natCast,Nat.mul_one]
  unfold madeCells idA
  apply Array.ext
  ·simp
  ·intro i h1 h2
   simp[Value.cells,Nat.mod_one]
   rfl
 rw[e]
 simp
theorem Xfz (l:List Nat)(h:(Xct l).2.2≠0):(Xct l).1=[]:=by
 unfold Xct at h⊢
 by_cases h1:174764<l.length
 ·rw[qP h1]
 ·rw[qN h1] at h⊢
  cases hv:Xig (l.take (Xbk l)) with
  |none=>rfl
  |some vs=>
   rw[hv] at h
   simp only[] at h⊢
   by_cases h2:l.length%4≠0
   ·rw[qP h2]
   ·rw[qN h2] at h⊢
    by_cases h3:(Xep vs).1≠0
    ·rw[qP h3]
    ·rw[qN h3] at h;exact absurd rfl h
theorem Xsk (l:List Nat):∀x∈(Xct l).1,x<256:=by
 by_cases h:(Xct l).2.2=0
 ·exact(Xoe l h).2
 ·rw[Xfz l h];simp
theorem Xx0 (w:World)(B:Nat)(l:List Nat)(er:Nat)(a:Option Addr)(cap:Nat)(h:RS w B l er a cap)(hl:l.length≤1000000)(n:Nat)(hn0:0<n)(hn:n≤16):
    Calls prog 155 #[.pointer (some ⟨B,0,none⟩),.int .i64 (n:Int)] w (Yb0 w B n l er):=by
 have hc0:w.cell? ⟨B,0,none⟩=some (.slice a l.length cap):=cell_of_row w B 0 _ _ _ h.blk
 have hc1:w.cell? ⟨B,1,none⟩=some (.int .i64 (er:Int)):=cell_of_row w B 1 _ _ _ h.blk
 have hf0:w.frozen? ⟨B,0,none⟩=false:=by have:=h.blk;simp[World.frozen?,this]
 have hf1:w.frozen? ⟨B,1,none⟩=false:=by have:=h.blk;simp[World.frozen?,this]
 have hcp:=h.cp
 have HBW:Hid (B<w.heap.size):=Hd (zY h.blk)
 have hbw:=HBW.o
 have H:=Hd h
 have MK:=Hd (fun W=>Xv9 W n hn)
 clear h
 by_cases h0:er=0
 ·subst h0
  have hc1':w.cell? ⟨B,1,none⟩=some (.int .i64 0):=hc1
  by_cases hs:l.length<n
  ·go_enter func155,ntmps155
   go_wp2_with fail
   rw[MK.o]
   simp only[Result.andThen]
   rw[Oper.upon_value]
   go_wp2_with fail
   go_ret
   refine⟨List.replicate n 0,l,4,_,a,_,cap,rfl,zL _,by simp,fun _=>⟨w.heap.size,0,rfl,by simp,by omega,fun j hj=>?_⟩,⟨?_,?_,H.o.cp⟩,?_,.inr ⟨rfl,rfl,rfl,fun _=>hs⟩⟩
   ·rw[cell_of_row _ w.heap.size _ _ _ _ (by have:=zN (w.setCell ⟨B,1,none⟩ (.int .i64 4)) (.cells (idA (List.replicate n 0)) 5);simpa using this)]
    simp at hj
    simp[idA,hj]
   ·exact(((zR _ (w.setCell ⟨B,1,none⟩ (.int .i64 4))).alloc (zL _) _).block B (by simp;exact HBW.o)).trans (Xd8 H.o.blk 1 _)
   ·exact H.o.row.mono ((Fr1.setC _).trans (Fr1.of_below ((zR _ _).alloc (zL _) _)))
   ·exact(Fr1.setC _).trans (Fr1.of_below ((zR _ _).alloc (zL _) _))
  ·have hge:n≤l.length:=by omega
   obtain⟨b,off,rfl,hlt,hne,hcells⟩:=H.o.row (fun e=>by rw[e] at hge;simp at hge;omega)
   by_cases hcn:cap=n
   ·have hl2:l.length=n:=by omega
    subst hcn
    go_enter func155,ntmps155
    go_wp2_with fail
    go_ret
    refine⟨l.take cap,l.drop cap,0,_,_,_,_,rfl,zL _,by simp;omega,(H.o.row.take cap).mono (Fr1.setC _),⟨(Xd8 H.o.blk 0 _).trans (by simp only[List.length_drop,hl2,Nat.sub_self];rfl),fun h=>absurd (by rw[List.drop_of_length_le (by omega)]) h,by simp;omega⟩,Fr1.setC _,.inl ⟨rfl,hge,rfl,rfl,rfl⟩⟩
   ·go_enter func155,ntmps155
    go_wp2_with fail
    go_ret
    exact⟨l.take n,l.drop n,0,_,_,_,_,rfl,by omega,by simp;omega,(H.o.row.take n).mono (Fr1.setC _),⟨(Xd8 H.o.blk 0 _).trans (by simp only[List.length_drop];rfl),(H.o.row.drop n hge).mono (Fr1.setC _),by simp;omega⟩,Fr1.setC _,.inl ⟨rfl,hge,rfl,rfl,rfl⟩⟩
 ·have hz:((er:Int)==0)=false:=Xaj (by omega)
  have hz2:((er:Int) !=0)=true:=by simp[bne,hz]
  have HE:Hid (er=(if er=0 then 4 else er)):=Hd (by rw[qN h0])
  have H0:=Hd h0
  clear h0
  go_enter func155,ntmps155
  go_wp2_with fail
  rw[MK.o]
  simp only[Result.andThen]
  rw[Oper.upon_value]
  go_wp2_with fail
  go_ret
  refine⟨List.replicate n 0,l,er,_,a,_,cap,rfl,zL _,by simp,fun _=>⟨w.heap.size,0,rfl,by simp,by omega,fun j hj=>?_⟩,⟨?_,?_,H.o.cp⟩,?_,.inr ⟨rfl,HE.o,rfl,fun h=>absurd h H0.o⟩⟩
  ·rw[cell_of_row _ w.heap.size _ _ _ _ (zN w _)]
   simp at hj
   simp[idA,hj]
  ·exact(((zR _ w).alloc (zL _) _).block B HBW.o).trans H.o.blk
  ·exact H.o.row.mono (Fr1.of_below ((zR _ _).alloc (zL _) _))
  ·exact Fr1.of_below ((zR _ _).alloc (zL _) _)
def Xma (er:Nat)(l:List Nat):Nat:=if er≠0 then er else if l.length=0 then 0 else 5
theorem Ylc (w:World)(B:Nat)(l:List Nat)(er:Nat)(a:Option Addr)(cap:Nat)(h:RS w B l er a cap)(hl:l.length≤1000000):
    Calls prog 156 #[.pointer (some ⟨B,0,none⟩)] w fun e w'=>e=.returned (.int .i64 (Xma er l:Nat))∧Fr1 B w w':=by
 have hc0:w.cell? ⟨B,0,none⟩=some (.slice a l.length cap):=cell_of_row w B 0 _ _ _ h.blk
 have hc1:w.cell? ⟨B,1,none⟩=some (.int .i64 (er:Int)):=cell_of_row w B 1 _ _ _ h.blk
 have hf1:w.frozen? ⟨B,1,none⟩=false:=by have:=h.blk;simp[World.frozen?,this]
 clear h
 by_cases h0:er=0
 ·subst h0
  have hc1':w.cell? ⟨B,1,none⟩=some (.int .i64 0):=hc1
  clear hc1
  by_cases hs:l.length=0
  ·have E:Hid (Xma 0 l=0):=Hd (by unfold Xma;rw[qN (by simp),qP hs])
   rw[hs] at hc0
   clear hs
   go_enter func156,ntmps156
   go_wp2_with fail
   go_ret
   exact⟨by rw[E.o];rfl,Fr1.refl _ _⟩
  ·have E:Hid (Xma 0 l=5):=Hd (by unfold Xma;rw[qN (by simp),qN hs])
   have hp:0<l.length:=by omega
   clear hs
   go_enter func156,ntmps156
   go_wp2_with fail
   go_ret
   exact⟨by rw[E.o];rfl,Fr1.setC _⟩
 ·have hz:((er:Int)==0)=false:=Xaj (by omega)
  have E:Hid (Xma er l=er):=Hd (by unfold Xma;rw[qP h0])
  clear h0
  go_enter func156,ntmps156
  go_wp2_with fail
  go_ret
  exact⟨by rw[E.o];rfl,Fr1.refl _ _⟩
def Ygk (w:World)(B:Nat)(l:List Nat)(er:Nat)(e:Ending)(w':World):Prop:=
 ∃(c:Nat) (l':List Nat) (er':Nat) (al:Option Addr) (cl:Nat),e=.returned (.int .i64 (c:Int))∧c<256∧RS w' B l' er' al cl∧Fr1 B w w'∧
  ((er=0∧1≤l.length∧l.take 1=[c]∧l'=l.drop 1∧er'=0)∨(l'=l∧er'=(if er=0 then 4 else er)∧c=0∧(er=0→l.length<1)))
theorem Yhn (c:Nat)(h:c<256):Go.bits .or .i64 0 (c:Int)=(c:Int):=by
 have:∀q:Fin 256,Go.bits .or .i64 0 ((q.val:Nat):Int)=((q.val:Nat):Int):=by decide+kernel
 exact this ⟨c,h⟩
theorem Xy8 (w:World)(B:Nat)(l:List Nat)(er:Nat)(a:Option Addr)(cap:Nat)(h:RS w B l er a cap)(hl:l.length≤1000000)(hlt:∀x∈l,x<256):
    Calls prog 154 #[.pointer (some ⟨B,0,none⟩),.int .i64 1] w (Ygk w B l er):=by
 have T:Hid (Calls prog 155 #[.pointer (some ⟨B,0,none⟩),.int .i64 1] w (Yb0 w B 1 l er)):=Hd (Xx0 w B l er a cap h hl 1 (by omega) (by omega))
 have HLT:=Hd hlt
 clear h hlt
 go_enter func154,ntmps154
 go_wp2_with fail
 refine T.o.mono ?_
 rintro e w1 ⟨x,l',er',ax,al,cx,cl,rfl,hcx,hx1,hrow,hrs,hfr,hrel⟩
 obtain⟨c,rfl⟩:∃c,x=[c]:=by
  match x,hx1 with
  |[c],_=>exact⟨c,rfl⟩
 obtain⟨b,off,rfl,hb,hbB,hcell⟩:=hrow (by simp)
 have hc:=hcell 0 (by simp)
 have hc':w1.cell? ⟨b,off,none⟩=some (.int .u8 (c:Int)):=hc
 have hc256:c<256:=by
  rcases hrel with⟨_,h1,h2,_⟩|⟨_,_,h2,_⟩
  ·exact HLT.o c (List.mem_of_mem_take (i:=1) (by rw[←h2];simp))
  ·simp at h2;omega
 have orz:=Yhn c hc256
 have POST:Hid (Ygk w B l er (.returned (.int .i64 (c:Int))) w1):=Hd ⟨c,l',er',al,cl,rfl,hc256,hrs,hfr,by
  rcases hrel with⟨h0,h1,h2,h3,h4⟩|⟨h1,h2,h3,h4⟩
  ·exact .inl ⟨h0,h1,h2.symm,h3,h4⟩
  ·exact .inr ⟨h1,h2,by simpa using h3,h4⟩⟩
 clear T hrel hrs hfr hcell hc hx1
 go_wp2_with fail
 go_loopg [5,7,12] 1 (fun k x y i wr=>((k=1∧x=.int .i64 0∧i=.int .i64 0)∨(k=0∧x=.int .i64 (c:Int)∧i=.int .i64 1))∧w1=wr)
 case atStart=>exact⟨.inl ⟨rfl,rfl,rfl⟩,rfl⟩
 case round=>
  obtain⟨hcase,rfl⟩:=hrel
  rcases hcase with⟨rfl,rfl,rfl⟩|⟨rfl,rfl,rfl⟩
  ·go_wp2_with fail
   go_roundg 0
   case measure=>omega
   case rel=>exact⟨.inr ⟨rfl,rfl,rfl⟩,rfl⟩
  ·go_wp2_with fail
   go_ret
   exact POST.o
theorem Xa1 {P:Program}{fn:Func}{p u:Tmp}{ty:TypeId}(h:fn.results=#[.cell p ty,.tmp u])(tmps:Array Value)(w:World)(g:Nat)(t:TypeId)(cs:Array Value)(fr:Nat×Nat)(d:TypeDesc)
    (hp:tmps.getD p undef=.pointer (some ⟨g,0,none⟩)) (hg:w.heap[g]?=some (.cells cs t fr))
    (hu:P.underlying ty=some d) (hd:(match d with|.struct _|.array _ _=>true|_=>false)=true) (hi:(P.info? ty).map (·.size)=some cs.size):
    (results fn tmps).run P w=.ok (.tuple #[.agg cs,tmps.getD u undef]) w:=by
 have hp':tmps[p]?.getD undef=.pointer (some ⟨g,0,none⟩):=by simpa using hp
 simp[results,h,hp',asAddr,run_loadVar_row w g t ty cs fr d hg hu hd hi]
theorem Xuy (w:World)(h:Int):∀(r:List Nat),r.length=16→(Instr.build 37 #[(0,.int .i64 h),(1,.agg (idA r))]).run prog w=.ok (.agg (pkC h r)) w
 |[a0,a1,a2,a3,a4,a5,a6,a7,a8,a9,a10,a11,a12,a13,a14,a15],_=>by kernel_rfl
theorem Ybe {h:Int}{r:List Nat}(hr:r.length=16):Cl 17 (pkC h r):=⟨Xfc hr,by
 rw[Array.all_eq_true']
 intro x hx
 unfold pkC at hx
 simp at hx
 rcases hx with rfl|⟨n,_,rfl⟩<;>rfl⟩
def Yl0 (l:List Nat)(w:World)(e:Ending)(w':World):Prop:=
 ∃(cs:Array Value),e=.returned (.tuple #[.agg cs,.int .i64 (Xgl l:Nat)])∧Cl 17 cs∧Bw w w'
def Xs5 (l:List Nat)(w:World)(e:Ending)(w':World):Prop:=
 ∃(h:Nat) (r:List Nat),e=.returned (.tuple #[.agg (pkC (h:Int) r),.int .i64 (Xgl l:Nat)])∧r.length=16∧h<256∧(∀x∈r,x<256)∧(Xgl l=0→(Xct l).1=h::r)∧Bw w w'
theorem Yhf (l:List Nat)(c:Nat)(l1:List Nat)(e1:Nat)(x l2:List Nat)(e2:Nat)
    (h1:((Xct l).2.2=0∧1≤(Xct l).1.length∧(Xct l).1.take 1=[c]∧l1=(Xct l).1.drop 1∧e1=0)∨(l1=(Xct l).1∧e1=(if(Xct l).2.2=0 then 4 else(Xct l).2.2)∧c=0∧((Xct l).2.2=0→(Xct l).1.length<1)))
    (h2:(e1=0∧16≤l1.length∧x=l1.take 16∧l2=l1.drop 16∧e2=0)∨(l2=l1∧e2=(if e1=0 then 4 else e1)∧x=List.replicate 16 0∧(e1=0→l1.length<16))):
    (Xma e2 l2≠0→Xgl l=Xma e2 l2)∧(Xma e2 l2=0→Xgl l=eIf (!Xav (c:Int)) 2):=by
 obtain⟨d,hd⟩:=xq (Xct l)
 have P:Xgl l=(if d.2.2≠0 then d.2.2 else if d.1.length<17 then 4 else if 17<d.1.length then 5 else if d.1.getD 0 0<1∨8<d.1.getD 0 0 then 2 else 0):=by rw[hd];rfl
 rw[←hd] at h1
 obtain⟨dl,dn,de⟩:=d
 simp only[] at h1 P
 clear hd
 rcases h1 with⟨a1,a2,a3,a4,a5⟩|⟨a1,a2,a3,a4⟩
 ·subst a1;subst a5;subst a4
  rw[qN (by simp)] at P
  have hc:dl.getD 0 0=c:=by
   cases dl with
   |nil=>simp at a2
   |cons y t=>simp at a3;simp[a3]
  rcases h2 with⟨b1,b2,b3,b4,b5⟩|⟨b1,b2,b3,b4⟩
  ·subst b4;subst b5
   simp only[List.length_drop] at b2
   rw[qN (by omega)] at P
   by_cases hk:dl.length=17
   ·have E:Xma 0 ((dl.drop 1).drop 16)=0:=by unfold Xma;rw[qN (by simp),qP (by simp;omega)]
    rw[qN (by omega),hc] at P
    rw[E]
    refine⟨fun h=>absurd rfl h,fun _=>?_⟩
    rw[P]
    unfold eIf Xav
    by_cases hh:c<1∨8<c
    ·rw[qP hh,qP]
     simp;omega
    ·rw[qN hh,qN]
     simp;omega
   ·have E:Xma 0 ((dl.drop 1).drop 16)=5:=by unfold Xma;rw[qN (by simp),qN (by simp;omega)]
    rw[qP (by omega)] at P
    rw[E]
    exact⟨fun _=>P,fun h=>by omega⟩
  ·have hl:=b4 rfl
   rw[qP rfl] at b2
   subst b2
   simp only[List.length_drop] at hl
   have E:Xma 4 l2=4:=by unfold Xma;rw[qP (by simp)]
   rw[qP (by omega)] at P
   rw[E]
   exact⟨fun _=>P,fun h=>by omega⟩
 ·by_cases h0:de=0
  ·have hl:=a4 h0
   rw[qP h0] at a2
   subst a2
   rw[qN (by omega),qP (by omega)] at P
   rcases h2 with⟨b1,_⟩|⟨b1,b2,b3,b4⟩
   ·cases b1
   ·rw[qN (by decide)] at b2
    subst b2
    have E:Xma 4 l2=4:=by unfold Xma;rw[qP (by simp)]
    rw[E]
    exact⟨fun _=>P,fun h=>by omega⟩
  ·rw[qN h0] at a2
   subst a2
   rw[qP h0] at P
   rcases h2 with⟨b1,_⟩|⟨b1,b2,b3,b4⟩
   ·exact absurd b1 h0
   ·rw[qN h0] at b2
    subst b2
    have E:Xma e2 l2=e2:=by unfold Xma;rw[qP h0]
    rw[E]
    exact⟨fun _=>P,fun h=>absurd h h0⟩
theorem Yhd (l:List Nat)(c:Nat)(l1:List Nat)(e1:Nat)(x l2:List Nat)(e2:Nat)
    (h1:((Xct l).2.2=0∧1≤(Xct l).1.length∧(Xct l).1.take 1=[c]∧l1=(Xct l).1.drop 1∧e1=0)∨(l1=(Xct l).1∧e1=(if(Xct l).2.2=0 then 4 else(Xct l).2.2)∧c=0∧((Xct l).2.2=0→(Xct l).1.length<1)))
    (h2:(e1=0∧16≤l1.length∧x=l1.take 16∧l2=l1.drop 16∧e2=0)∨(l2=l1∧e2=(if e1=0 then 4 else e1)∧x=List.replicate 16 0∧(e1=0→l1.length<16))) (h0:Xgl l=0):(Xct l).1=c::x:=by
 unfold Xgl at h0
 by_cases hd:(Xct l).2.2≠0
 ·rw[qP hd] at h0;exact absurd h0 hd
 rw[qN hd] at h0
 have hd0:(Xct l).2.2=0:=by simpa using hd
 by_cases hl:(Xct l).1.length<17
 ·rw[qP hl] at h0;cases h0
 rw[qN hl] at h0
 by_cases hl2:17<(Xct l).1.length
 ·rw[qP hl2] at h0;cases h0
 have h17:(Xct l).1.length=17:=by omega
 rcases h1 with⟨_,_,a3,a4,a5⟩|⟨_,_,_,a4⟩
 ·rcases h2 with⟨_,_,b3,_,_⟩|⟨_,_,_,b4⟩
  ·have:l1.length=16:=by rw[a4,List.length_drop];omega
   rw[List.take_of_length_le (by omega)] at b3
   rw[b3,a4,←List.singleton_append,←a3,List.take_append_drop]
  ·have:=b4 a5
   rw[a4,List.length_drop] at this;omega
 ·have:=a4 hd0;omega
theorem Xus (l:List Nat):(Xct l).1.length≤l.length:=by
 by_cases h:(Xct l).2.2=0
 ·obtain⟨h1,h2⟩:=Xoe l h
  have:=Xjz _ h2
  rw[h1] at this
  omega
 ·rw[Xfz l h];simp
theorem RS.below {w w':World}{B:Nat}{l:List Nat}{er:Nat}{a:Option Addr}{cap:Nat}(h:RS w B l er a cap)(hb:Bw w w'):RS w' B l er a cap:=
 ⟨(hb.block B (zY h.blk)).trans h.blk,h.row.mono (Fr1.of_below hb),h.cp⟩
theorem Xcm:(prog.info? 22).map (·.size)=some 16:=by kernel_rfl
theorem Xfs (s:ByteArray)(w:World)(hs:s.size≤1000000)(hE:Env w):
    Calls prog 103 #[.string s] w (Xs5 (bs s) w):=by
 have ANSZ:Hid (∀w',Xgl (bs s)≠0→Bw w w'→Xs5 (bs s) w (.returned (.tuple #[.agg (pkC 0 (List.replicate 16 0)),.int .i64 (Xgl (bs s):Nat)])) w'):=Hd (fun w' h hb=>⟨0,List.replicate 16 0,rfl,by simp,by omega,fun x hx=>by rw[List.mem_replicate] at hx;omega,fun h2=>absurd h2 h,hb⟩)
 have z16:(List.replicate 16 0:List Nat).length=16:=by simp
 obtain⟨zs,hzs⟩:=xq (pkC 0 (List.replicate 16 0))
 have ZCL:Hid (Cl 17 zs):=Hd (by rw[hzs];exact Ybe z16)
 rw[←hzs] at ANSZ
 have BU:Hid (∀w,(Instr.build 37 #[]).run prog w=.ok (.agg zs) w):=Hd (fun w=>by rw[hzs];kernel_rfl)
 have START:Hid (w.alloc (.cells zs 37)=w.alloc (.cells (pkC 0 (List.replicate 16 0)) 37)):=Hd (by rw[hzs])
 have FIN:Hid (∀(w4:World) (cs:Array Value),Cl 17 cs→w4.heap[w.heap.size]?=some (.cells zs 37 (0,0))→Bw w w4→
     Sv 37 ⟨w.heap.size,0,none⟩ (.agg cs) w4 (w4.setRow w.heap.size cs)∧
     (∀tmps:Array Value,tmps.getD 2 undef=.pointer (some ⟨w.heap.size,0,none⟩)→(results Tryz.f103 tmps).run prog (w4.setRow w.heap.size cs)=.ok (.tuple #[.agg cs,tmps.getD 3 undef]) (w4.setRow w.heap.size cs))∧
     Bw w (w4.setRow w.heap.size cs)):=Hd (fun w4 cs hcl hg hb=>
  ⟨run_storeVar_row (P:=prog) w4 w.heap.size _ 37 zs cs hg (by rw[hcl.1];exact Xc6) (by rw[hcl.1,ZCL.o.1]) hcl.2,
   fun tmps h2=>Xa1 results103 tmps _ w.heap.size _ _ _ _ h2 (setRow_heap w4 w.heap.size zs cs _ _ hg) underlying37 rfl (by rw[hcl.1];exact Xc6),
   below_setRow hb (zL _) cs⟩)
 have B0:Bw w (w.alloc (.cells zs 37)):=(zR _ w).alloc (zL _) _
 have RD:Hid (∀w0,w.alloc (.cells zs 37)=w0→Calls prog 153 #[.string s] w0 fun e w'=>∃B a cap,e=.returned (.pointer (some ⟨B,0,none⟩))∧(w.alloc (.cells zs 37)).heap.size≤B∧RS w' B (Xct (bs s)).1 (Xct (bs s)).2.2 a cap∧Below (w.alloc (.cells zs 37)).heap.size (w.alloc (.cells zs 37)) w'):=Hd (by rintro w0 rfl;exact Xrc s _ hs (hE.on B0))
 have BB0:=Hd B0
 clear hE B0 z16
 go_enter func103,ntmps103
 go_wp2_with fail
 refine(RD.o _ START.o).mono ?_
 rintro e w1 ⟨B,a,cap,rfl,hB,hrs,hb1⟩
 have hz1:w1.heap[w.heap.size]?=some (.cells zs 37 (0,0)):=(hb1.block w.heap.size (by simp)).trans (zN w _)
 have hBw:w.heap.size<B:=by simp at hB;omega
 have b1:Bw w w1:=BB0.o.trans (hb1.mono (by simp))
 have hdl:=Xus (bs s)
 rw[Xaa] at hdl
 have NU:=Hd (Xy8 w1 B _ _ a cap hrs (by omega) (Xsk (bs s)))
 have Z1:=Hd hz1;have B1:=Hd b1
 have DL:=Hd (show(Xct (bs s)).1.length≤1000000 by omega)
 clear hb1 hrs hz1 b1 hB hdl RD START BB0 hzs
 go_wp2_with fail
 refine NU.o.mono ?_
 rintro e w2 ⟨c,l1,e1,a1,cp1,rfl,hc,hrs1,hf1,h1⟩
 have hl1:l1.length≤1000000:=by
  have:=DL.o
  rcases h1 with⟨_,_,_,h,_⟩|⟨h,_⟩
  ·rw[h,List.length_drop];omega
  ·rw[h];exact this
 have TK:Hid (Calls prog 155 #[.pointer (some ⟨B,0,none⟩),.int .i64 16] w2 (Yb0 w2 B 16 l1 e1)):=Hd (Xx0 w2 B l1 e1 a1 cp1 hrs1 hl1 16 (by omega) (by omega))
 have F1:=Hd hf1;have H1:=Hd h1
 clear NU hrs1 hf1 h1
 go_wp2_with fail
 refine TK.o.mono ?_
 rintro e w3 ⟨x,l2,e2,ax,a2,cx,cp2,rfl,hcx,hx,hrow,hrs2,hf2,h2⟩
 obtain⟨b,off,rfl,hb,hbB,hcell⟩:=hrow (fun e=>by rw[e] at hx;simp at hx)
 have LAW:=Hd (Yhf (bs s) c l1 e1 x l2 e2 H1.o h2)
 have XLT:∀y∈x,y<256:=by
  have hl:∀y∈l1,y<256:=by
   rcases H1.o with⟨_,_,_,h,_⟩|⟨h,_⟩
   ·rw[h];exact fun y hy=>Xsk (bs s) y (List.mem_of_mem_drop hy)
   ·rw[h];exact Xsk (bs s)
  rcases h2 with⟨_,_,h,_,_⟩|⟨_,_,h,_⟩
  ·rw[h];exact fun y hy=>hl y (List.mem_of_mem_take hy)
  ·rw[h];exact fun y hy=>by rw[List.mem_replicate] at hy;omega
 have ANSC:Hid (∀w',Bw w w'→Xs5 (bs s) w (.returned (.tuple #[.agg (pkC (c:Int) x),.int .i64 (Xgl (bs s):Nat)])) w'):=Hd (fun w' hb=>⟨c,x,rfl,hx,hc,XLT,Yhd (bs s) c l1 e1 x l2 e2 H1.o h2,hb⟩)
 have hl2:l2.length≤1000000:=by
  rcases h2 with⟨_,_,_,h,_⟩|⟨h,_⟩
  ·rw[h,List.length_drop];omega
  ·rw[h];exact hl1
 have LD:Hid (Ld 22 ⟨b,off,none⟩ w3 (.agg (idA x))):=Hd (Xah w3 b off _ _ _ underlying22 rfl (by rw[Xag,hx];exact Xcm) (by
  intro j u hu
  unfold idA at hu
  rw[List.getElem?_toArray] at hu
  obtain⟨hj,rfl⟩:=List.getElem?_eq_some_iff.1 hu
  rw[List.length_map] at hj
  rw[hcell j hj];simp))
 have PC:=Hd (fun w=>Xfb w (c:Int) hx)
 have BP:=Hd (fun w=>Xuy w (c:Int) x hx)
 obtain⟨cs,hcs⟩:=xq (pkC (c:Int) x)
 have CL:Hid (Cl 17 cs):=Hd (by rw[hcs];exact Ybe hx)
 rw[←hcs] at PC BP ANSC
 obtain⟨xs,hxs⟩:=xq (idA x)
 rw[←hxs] at LD BP
 have STN:Hid (∀zz:Array Value,zz.size=17→Sv 37 ⟨w3.heap.size,0,none⟩ (.agg cs) (w3.alloc (.cells zz 37)) (w3.alloc (.cells cs 37))):=Hd (fun zz hz=>run_storeVar_new w3 37 zz cs (by rw[CL.o.1];exact Xc6) (by rw[hz,CL.o.1]) CL.o.2)
 have hBs:B<w3.heap.size:=zY hrs2.blk
 have f3:Fr1 B w1 w3:=F1.o.trans hf2
 have hg3:w.heap.size<w3.heap.size:=by omega
 have b3:Bw w3 (w3.alloc (.cells cs 37)):=(zR _ _).alloc (zL _) _
 have EN:=Hd (Ylc _ B l2 e2 a2 cp2 (hrs2.below b3) hl2)
 have f4:Fr1 B w1 (w3.alloc (.cells cs 37)):=f3.trans (Fr1.of_below b3)
 have Z4:Hid ((w3.alloc (.cells cs 37)).heap[w.heap.size]?=some (.cells zs 37 (0,0))):=Hd ((f4.other _ (zY Z1.o) (by omega)).trans Z1.o)
 have P4:=Hd (zN w3 (.cells cs 37))
 have F4:=Hd f4
 have hw1:w.heap.size≤w1.heap.size:=B1.o.size
 have hat:∀w,(Instr.arrayAt 22 (.slice (some ⟨b,off,none⟩) 16 cx)).run prog w=.ok (.pointer (some ⟨b,off,none⟩)) w:=fun w=>by kernel_rfl
 obtain⟨en,hen⟩:=xq (Xma e2 l2)
 rw[←hen] at EN LAW
 clear TK hrow hrs2 hf2 h2 hcell hx XLT hcs hxs f3 b3 f4 hl1 hl2 hcx H1 F1 DL hen
 go_wp2_with (first
  |((with_reducible refine Xac 22 rfl _ rfl ?_);refine⟨_,_,rfl,LD.o,?_⟩)
  |((with_reducible refine Xhj 37 rfl _ _ rfl ?_);refine⟨_,_,_,rfl,rfl,BP.o _,?_⟩)
  |((with_reducible refine Xab 37 rfl _ _ rfl ?_);refine⟨_,_,_,rfl,rfl,STN.o _ rfl,?_⟩))
 refine EN.o.mono ?_
 rintro e w5 ⟨rfl,hf5⟩
 have z5:w5.heap[w.heap.size]?=some (.cells zs 37 (0,0)):=(hf5.other _ (by simp;omega) (by omega)).trans Z4.o
 have p5:w5.heap[w3.heap.size]?=some (.cells cs 37 (0,0)):=(hf5.other _ (by simp) (by omega)).trans P4.o
 have b5:Bw w w5:=B1.o.trans ((F4.o.trans hf5).below hw1 (by omega))
 have Z5:=Hd z5;have P5:=Hd p5;have B5:=Hd b5
 clear EN hf5 z5 p5 b5 Z4 P4 F4 STN BP LD
 by_cases h0:en=0
 ·have PV:=Hd (LAW.o.2 h0)
  subst h0
  have LD2:=Hd (Xal w5 w3.heap.size 17 _ _ cs _ _ P5.o rfl underlying37 Xc6 CL.o.1)
  obtain⟨q,hq⟩:=xq (Xav (c:Int))
  rw[←hq] at PC PV
  clear LAW hq
  go_upto_region 6 with fail
  refine wp_region_list ?_
  simp only[]
  refine Xac 37 rfl _ rfl ⟨_,_,rfl,LD2.o,?_⟩
  go_wp2_with fail
  refine(PC.o _).mono ?_
  rintro e w6 ⟨rfl,hb6⟩
  have z6:=(hb6.block _ (zY Z5.o)).trans Z5.o
  have p6:=(hb6.block _ (zY P5.o)).trans P5.o
  have b6:Bw w w6:=bg B5.o hb6
  have LD6:=Hd (Xal w6 w3.heap.size 17 _ _ cs _ _ p6 rfl underlying37 Xc6 CL.o.1)
  cases q
  ·obtain⟨ST,RES,BB⟩:=FIN.o w6 zs ZCL.o z6 b6
   have ST:=Hd ST;have RES:=Hd RES;have BB:=Hd BB
   have PV2:Hid (Xgl (bs s)=2):=PV
   clear z6 p6 b6 hb6 PC FIN LD2 LD6 PV Z5 P5 B5
   go_wp2_with (first
    |((with_reducible refine Xaf 37 rfl rfl ?_);refine⟨_,BU.o _,?_⟩)
    |((with_reducible refine Xab 37 rfl _ _ rfl ?_);refine⟨_,_,_,rfl,rfl,ST.o,?_⟩))
   exact zP (RES.o _ rfl) rfl (by have:=ANSZ.o _ (by rw[PV2.o];decide) BB.o;rw[PV2.o] at this;exact this)
  ·obtain⟨ST,RES,BB⟩:=FIN.o w6 cs CL.o z6 b6
   have ST:=Hd ST;have RES:=Hd RES;have BB:=Hd BB
   have PV2:Hid (Xgl (bs s)=0):=PV
   clear z6 p6 b6 hb6 PC FIN LD2 PV Z5 P5 B5
   go_upto_region 9 with fail
   refine wp_region_list ?_
   simp only[]
   refine Xac 37 rfl _ rfl ⟨_,_,rfl,LD6.o,?_⟩
   go_wp2_with ((with_reducible refine Xab 37 rfl _ _ rfl ?_);refine⟨_,_,_,rfl,rfl,ST.o,?_⟩)
   exact zP (RES.o _ rfl) rfl (by have:=ANSC.o _ BB.o;rw[PV2.o] at this;exact this)
 ·have PV:=Hd (LAW.o.1 h0)
  have HN0:=Hd h0
  have q0:((en:Int) !=0)=true:=Xam (by omega)
  obtain⟨ST,RES,BB⟩:=FIN.o w5 zs ZCL.o Z5.o B5.o
  have ST:=Hd ST;have RES:=Hd RES;have BB:=Hd BB
  clear LAW h0 PC FIN Z5 P5 B5
  go_wp2_with (first
   |((with_reducible refine Xaf 37 rfl rfl ?_);refine⟨_,BU.o _,?_⟩)
   |((with_reducible refine Xab 37 rfl _ _ rfl ?_);refine⟨_,_,_,rfl,rfl,ST.o,?_⟩))
  exact zP (RES.o _ rfl) rfl (by have:=ANSZ.o _ (by rw[PV.o];exact HN0.o) BB.o;rw[PV.o] at this;exact this)
theorem Xrk (s:ByteArray)(w:World)(hs:s.size≤1000000)(hE:Env w):
    Calls prog 103 #[.string s] w (Yl0 (bs s) w):=
 (Xfs s w hs hE).mono fun e w' ⟨h,r,h1,h2,_,_,_,h6⟩=>⟨_,h1,Ybe h2,h6⟩
theorem Xv1 (w:World)(b:Nat)(t:ByteArray)(st en:Nat)(at_:Int)(er:Nat)(h:WS w b t st en at_ er)(hE:Env w)(hb9:9≤b)(ht:t.size≤1000000):
    Calls prog 200 #[.pointer (some ⟨b,0,none⟩)] w (Xme w b t en er Xgl fun v=>∃cs,v=.agg cs∧Cl 17 cs):=by
 obtain⟨zs,hzs⟩:=xq (pkC 0 (List.replicate 16 0))
 have zcl:Cl 17 zs:=by rw[hzs];exact Ybe (by simp)
 have BU:Hid (∀w,(Instr.build 37 #[]).run prog w=.ok (.agg zs) w):=Hd (fun w=>by rw[hzs];kernel_rfl)
 have hbw:=h.lt
 have NX:Hid (∀w0,w.alloc (.cells zs 37)=w0→Calls prog 239 #[.pointer (some ⟨b,0,none⟩)] w0 (Yb2 (w.alloc (.cells zs 37)) b t st en er)):=Hd (by
  rintro w0 rfl
  have B:=(zR w.heap.size w).alloc (zL _) (.cells zs 37)
  exact Xf8 _ b t st en at_ er (h.below B) (hE.on B) hb9 ht)
 have START:Hid (w.alloc (.cells zs 37)=w.alloc (.cells (pkC 0 (List.replicate 16 0)) 37)):=Hd (by rw[hzs])
 have HE:=Hd hE
 have ZCL:=Hd zcl
 clear h hE hzs zcl
 go_enter func200,ntmps200
 go_wp2_with fail
 refine(NX.o _ START.o).mono ?_
 rintro e w1 ⟨x,ok,st',en',a,er',rfl,h1,f1,hx,h⟩
 have hz1:w1.heap[w.heap.size]?=some (.cells zs 37 (0,0)):=(f1.other w.heap.size (by simp) (by omega)).trans (zN w _)
 have f0:Fr1 b w w1:=(Fr1.of_below ((zR w.heap.size w).alloc (zL _) _)).trans f1
 have H1:=Hd h1;have F1:=Hd f0;have Z1:=Hd hz1
 have hs1:w.heap.size<w1.heap.size:=zY hz1
 clear NX h1 f1 START f0 hz1
 rcases h with⟨rfl,hne,hk⟩|⟨rfl,rfl,rfl,hk⟩
 ·have SL:Hid (StL t en er en' er' Xgl):=Hd (StL.no hne hk)
  have ST:=Hd (run_storeVar_row (P:=prog) w1 w.heap.size _ 37 zs zs Z1.o (by rw[ZCL.o.1];exact Xc6) rfl ZCL.o.2)
  have W2:=Hd (setRow_heap w1 w.heap.size zs zs _ _ Z1.o)
  have H2:=Hd (H1.o.row (show b≠w.heap.size by omega) zs)
  have F2:=Hd (F1.o.row (zL w.heap.size) zs)
  clear hne hk
  go_wp2_with (first
   |((with_reducible refine Xaf 37 rfl rfl ?_);refine⟨_,BU.o _,?_⟩)
   |((with_reducible refine Xab 37 rfl _ _ rfl ?_);refine⟨_,_,_,rfl,rfl,ST.o,?_⟩))
  exact zP (results_cell_row results200 _ _ w.heap.size _ _ _ _ rfl W2.o underlying37 rfl (by rw[ZCL.o.1];exact Xc6)) rfl
   ⟨_,st',en',a,er',rfl,⟨_,rfl,ZCL.o⟩,H2.o,F2.o,SL.o⟩
 ·have SL:Hid (StL t en 0 en' (Xgl (bs x)) Xgl):=Hd (StL.yes hk)
  have MP:=Hd (Xrk x w1 (by omega) (Xbu HE.o hb9 F1.o))
  obtain⟨m,hm⟩:=xq (Xgl (bs x))
  have MP2:Hid (Calls prog 103 #[.string x] w1 fun e w'=>∃cs,e=.returned (.tuple #[.agg cs,.int .i64 (m:Int)])∧Cl 17 cs∧Bw w1 w'):=Hd (by rw[hm];exact MP.o)
  rw[←hm] at SL
  clear hk MP hm
  go_wp2_with fail
  refine MP2.o.mono ?_
  rintro e w2 ⟨cs,rfl,hcl,hb2⟩
  have CL:=Hd hcl
  have STN:Hid (∀zz:Array Value,zz.size=17→Sv 37 ⟨w2.heap.size,0,none⟩ (.agg cs) (w2.alloc (.cells zz 37)) (w2.alloc (.cells cs 37))):=Hd (fun zz hz=>run_storeVar_new w2 37 zz cs (by rw[CL.o.1];exact Xc6) (by rw[hz,CL.o.1]) CL.o.2)
  have hb3:Bw w1 (w2.alloc (.cells cs 37)):=hb2.alloc hb2.size _
  have h3:=H1.o.below hb3
  have hc1:(w2.alloc (.cells cs 37)).cell? ⟨b,1,none⟩=some (.int .i64 (st':Int)):=cell_of_row _ b 1 _ _ _ h3.1
  have Z3:=Hd ((hb3.block _ hs1).trans Z1.o)
  have P3:=Hd (zN w2 (.cells cs 37))
  have F3:=Hd (F1.o.trans (Fr1.of_below hb3))
  have FL:=Hd (Xb8 _ b t st' en' a 0 h3 (st':Int) m)
  have hbp:b≠w2.heap.size:=by have:=H1.o.lt;have:=hb2.size;omega
  have hgp:w.heap.size<w2.heap.size:=by have:=hb2.size;omega
  clear MP2 hb2 hb3 h3 hcl
  go_wp2_with ((with_reducible refine Xab 37 rfl _ _ rfl ?_);refine⟨_,_,_,rfl,rfl,STN.o _ rfl,?_⟩)
  refine FL.o.mono ?_
  rintro e w4 ⟨⟨v,rfl⟩,⟨a',h4⟩,f4⟩
  have hz4:=(f4.other w.heap.size (by simp;omega) (by omega)).trans Z3.o
  have hp4:=(f4.other w2.heap.size (by simp) (by omega)).trans P3.o
  have H4:Hid (WS w4 b t st' en' a' m):=Hd h4
  have LD:=Hd (Xal w4 w2.heap.size 17 _ _ cs _ _ hp4 rfl underlying37 Xc6 CL.o.1)
  have ST:=Hd (run_storeVar_row (P:=prog) w4 w.heap.size _ 37 zs cs hz4 (by rw[CL.o.1];exact Xc6) (by rw[CL.o.1,ZCL.o.1]) CL.o.2)
  have W2:=Hd (setRow_heap w4 w.heap.size zs cs _ _ hz4)
  have H5:=Hd (H4.o.row (show b≠w.heap.size by omega) cs)
  have F5:=Hd ((F3.o.trans f4).row (zL w.heap.size) cs)
  clear h4 f4 FL hc1 hz4 hp4 STN
  go_upto_region 6 with fail
  refine wp_region_list ?_
  simp only[]
  refine Xac 37 rfl _ rfl ⟨_,_,rfl,LD.o,?_⟩
  go_wp2_with ((with_reducible refine Xab 37 rfl _ _ rfl ?_);refine⟨_,_,_,rfl,rfl,ST.o,?_⟩)
  exact zP (results_cell_row results200 _ _ w.heap.size _ _ _ _ rfl W2.o underlying37 rfl (by rw[CL.o.1];exact Xc6)) rfl
   ⟨_,st',en',a',m,rfl,⟨_,rfl,CL.o⟩,H5.o,F5.o,SL.o⟩
theorem Xax:(prog.info? 139).map (·.size)=some 56:=by kernel_rfl
def Xmc (k:Int)(l:List Value):Array Value:=(([Value.int .i64 k]:List Value)++l++([.string ⟨#[]⟩,.int .i64 0,.bool false,.slice none 0 0,.string ⟨#[]⟩,.int .i64 0,.int .i64 0]:List Value)++List.replicate 16 (Value.int .u8 0)).toArray
def Xic:List Value:=List.replicate 32 (.int .u8 0)
theorem Xw4 (w:World)(k:Int):∀(l:List Value),l.length=32→(Instr.build 139 #[(0,.int .i64 k),(1,.agg l.toArray)]).run prog w=.ok (.agg (Xmc k l)) w
 |[v0,v1,v2,v3,v4,v5,v6,v7,v8,v9,v10,v11,v12,v13,v14,v15,v16,v17,v18,v19,v20,v21,v22,v23,v24,v25,v26,v27,v28,v29,v30,v31],_=>by kernel_rfl
theorem Xgh (w:World)(k:Int):(Instr.build 139 #[(0,.int .i64 k)]).run prog w=.ok (.agg (Xmc k Xic)) w:=by kernel_rfl
theorem Xd7 (k:Int)(l:List Value)(h:l.length=32)(h1:∀v∈l,v.oneCell'=true):Cl 56 (Xmc k l):=⟨by simp[Xmc,h],by
 rw[Array.all_eq_true']
 intro x hx
 unfold Xmc at hx
 rw[List.mem_toArray,List.mem_append,List.mem_append,List.mem_append] at hx
 rcases hx with((hx|hx)|hx)|hx
 ·rw[List.mem_singleton] at hx;rw[hx];rfl
 ·exact h1 x hx
 ·simp only[List.mem_cons] at hx
  rcases hx with rfl|rfl|rfl|rfl|rfl|rfl|rfl|hx<;>first|rfl|cases hx
 ·rw[List.mem_replicate] at hx;rw[hx.2];rfl⟩
theorem Xqq {n:Nat}{cs:Array Value}(h:Cl n cs):∀v∈cs.toList,v.oneCell'=true:=fun v hv=>(Array.all_eq_true'.1 h.2) v (by simpa using hv)
theorem Xer:∀v∈Xic,v.oneCell'=true:=fun v hv=>by unfold Xic at hv;rw[List.mem_replicate] at hv;rw[hv.2];rfl
def MB (w:World)(p:Nat):Prop:=∃cs,w.heap[p]?=some (.cells cs 139 (0,0))∧Cl 56 cs
theorem MB.lt {w:World}{p:Nat}(h:MB w p):p<w.heap.size:=by obtain⟨cs,h,_⟩:=h;exact zY h
theorem MB.setCell {w:World}{p:Nat}(h:MB w p)(j:Nat){u:Value}(hu:u.oneCell'=true):MB (w.setCell ⟨p,j,none⟩ u) p:=by
 obtain⟨cs,h1,h2,h3⟩:=h
 refine⟨_,Xd8 h1 j u,by simpa using h2,?_⟩
 rw[Array.all_eq_true'] at h3⊢
 intro x hx
 rw[Array.mem_iff_getElem] at hx
 obtain⟨i,hi,rfl⟩:=hx
 rw[Array.getElem_setIfInBounds (by simpa using hi)]
 split
 ·exact hu
 ·exact h3 _ (Array.getElem_mem _)
theorem MB.setCells {p:Nat}:∀(vs:List Value) (o:Nat) (w:World),MB w p→(∀v∈vs,v.oneCell'=true)→MB (w.setCells p o vs) p∧Fr1 p w (w.setCells p o vs)
 |[],o,w,h,_=>⟨h,Fr1.refl _ _⟩
 |v::r,o,w,h,hv=>by
  obtain⟨h1,h2⟩:=MB.setCells r (o+1) _ (h.setCell o (hv v (List.mem_cons_self ..))) (fun x hx=>hv x (List.mem_cons_of_mem _ hx))
  exact⟨h1,(Fr1.setC v).trans h2⟩
theorem MB.fr {w w':World}{p b:Nat}(h:MB w p)(hf:Fr1 b w w')(hne:p≠b):MB w' p:=by
 obtain⟨cs,h1,h2⟩:=h
 exact⟨cs,(hf.other p (zY h1) hne).trans h1,h2⟩
theorem WS.fr {w w':World}{b p:Nat}{t:ByteArray}{st en:Nat}{at_:Int}{er:Nat}(h:WS w b t st en at_ er)(hf:Fr1 p w w')(hne:b≠p):WS w' b t st en at_ er:=⟨(hf.other b h.lt hne).trans h.1,h.2⟩
theorem Fr1.new {b p:Nat}{w0 w1 w2:World}(h:Fr1 b w0 w1)(h':Fr1 p w1 w2)(hp:w0.heap.size≤p):Fr1 b w0 w2:=
 ⟨h'.os.trans h.os,h'.tape.trans h.tape,h'.output.trans h.output,Nat.le_trans h.size h'.size,fun k hk hne=>(h'.other k (Nat.lt_of_lt_of_le hk h.size) (by omega)).trans (h.other k hk hne)⟩
theorem MB.cell {w:World}{p:Nat}(h:MB w p){j:Nat}(hj:j<56):∃u,w.cell? ⟨p,j,none⟩=some u∧w.frozen? ⟨p,j,none⟩=false:=by
 obtain⟨cs,h1,h2,h3⟩:=h
 exact⟨cs[j]'(by omega),by rw[cell_of_row w p j _ _ _ h1];simp[h2,hj],by simp[World.frozen?,h1]⟩
theorem MB.store {w:World}{p:Nat}(h:MB w p)(o n:Nat)(hn:o+n≤56)(ty:TypeId){cs:Array Value}(hc:Cl n cs)(hi:(prog.info? ty).map (·.size)=some n):
    (storeVar ty ⟨p,o,none⟩ (.agg cs)).run prog w=.ok () (w.setCells p o cs.toList)∧MB (w.setCells p o cs.toList) p∧Fr1 p w (w.setCells p o cs.toList):=
 ⟨run_storeVar_mid w p o ty cs (fun j hj=>by
     obtain⟨u,h1,h2⟩:=h.cell (j:=o+j) (by rw[hc.1] at hj;omega)
     exact⟨by rw[h1];rfl,h2⟩) (by rw[hc.1];exact hi) hc.2,MB.setCells _ _ _ h (Xqq hc)⟩
def Xcy (w:World)(b:Nat)(t:ByteArray)(en er:Nat)(F:List Nat→Nat)(e:Ending)(w':World):Prop:=
 ∃(cs:Array Value) (st' en':Nat) (a:Int) (er':Nat),e=.returned (.agg cs)∧Cl 56 cs∧WS w' b t st' en' a er'∧Fr1 b w w'∧fe er' (fin ((bs t).drop en'))=fe er (F ((bs t).drop en))
theorem Yah (w:World)(b:Nat)(t:ByteArray)(st en:Nat)(at_:Int)(er:Nat)(h:WS w b t st en at_ er)(hE:Env w)(hb9:9≤b)(ht:t.size≤1000000):
    Calls prog 190 #[.pointer (some ⟨b,0,none⟩)] w (Xcy w b t en er fun T=>nxt T fun x T=>fe (Xid x) (fin T)):=by
 obtain⟨zs,hzs⟩:=xq (Xmc 0 Xic)
 have ZCL:Hid (Cl 56 zs):=Hd (by rw[hzs];exact Xd7 0 _ (by simp[Xic]) Xer)
 have hbw:=h.lt
 have TG:Hid (∀w0,w.alloc (.cells zs 139)=w0→Calls prog 191 #[.pointer (some ⟨b,0,none⟩)] w0 (Xme (w.alloc (.cells zs 139)) b t en er Xid fun v=>∃cs,v=.agg cs∧Cl 32 cs)):=Hd (by
  rintro w0 rfl
  have B:=(zR w.heap.size w).alloc (zL _) (.cells zs 139)
  exact Xmi _ b t st en at_ er (h.below B) (hE.on B) hb9 ht)
 have START:Hid (w.alloc (.cells zs 139)=w.alloc (.cells (Xmc 0 Xic) 139)):=Hd (by rw[hzs])
 clear h hE hzs
 go_enter func190,ntmps190
 go_wp2_with fail
 refine(TG.o _ START.o).mono ?_
 rintro e w1 ⟨v,st',en',a,er',rfl,⟨cs,rfl,hcl⟩,h1,f1,hsl⟩
 have hz1:w1.heap[w.heap.size]?=some (.cells zs 139 (0,0)):=(f1.other w.heap.size (by simp) (by omega)).trans (zN w _)
 have f0:Fr1 b w w1:=(Fr1.of_below ((zR w.heap.size w).alloc (zL _) _)).trans f1
 have hl:cs.toList.length=32:=by simpa using hcl.1
 have BC:=Hd (fun w=>Xw4 w 1 cs.toList hl)
 obtain⟨ds,hds⟩:=xq (Xmc 1 cs.toList)
 have DC:Hid (Cl 56 ds):=Hd (by rw[hds];exact Xd7 1 _ hl (Xqq hcl))
 rw[←hds] at BC
 have ST:=Hd (run_storeVar_row (P:=prog) w1 w.heap.size _ 139 zs ds hz1 (by rw[DC.o.1];exact Xax) (by rw[DC.o.1,ZCL.o.1]) DC.o.2)
 have W2:=Hd (setRow_heap w1 w.heap.size zs ds _ _ hz1)
 have POST:Hid (Xcy w b t en er (fun T=>nxt T fun x T=>fe (Xid x) (fin T)) (.returned (.agg ds)) (w1.setRow w.heap.size ds)):=Hd ⟨ds,st',en',a,er',rfl,DC.o,h1.row (by omega) ds,f0.row (zL _) ds,(hsl fin).symm⟩
 clear TG START h1 f1 hsl f0 hz1 hds hcl hl
 go_wp2_with (first
  |((with_reducible refine Xhj 139 rfl _ _ rfl ?_);refine⟨_,_,_,rfl,rfl,BC.o _,?_⟩)
  |((with_reducible refine Xab 139 rfl _ _ rfl ?_);refine⟨_,_,_,rfl,rfl,ST.o,?_⟩))
 exact zP (results_cell_row results190 _ _ w.heap.size _ _ _ _ rfl W2.o underlying139 rfl (by rw[DC.o.1];exact Xax)) rfl POST.o
theorem Xsd {P:Program}{o:Oper}{a:Act}{w:World}{v:Value}{t:TypeId}{i:Nat}{x:Operand}{vx:Value}(ho:o.op=.build t #[(i,x)])(hx:a.eval x=vx)(h:(Instr.build t #[(i,vx)]).run P w=.ok v w):
    (execOp a.eval o).run P w=.ok (.value v) w:=Xc1 ho (by subst hx;simpa using h)
theorem Xdv {P:Program}{ops:Array Oper}{rest:List Oper}{o:Oper}{a:Act}{w:World}{Q:Exit→Act→World→Prop}(t:TypeId)(hgd:o.guard=none){i:Nat}(x:Operand)(ho:o.op=.build t #[(i,x)])(h:∃vx v,a.eval x=vx∧(Instr.build t #[(i,vx)]).run P w=.ok v w∧wpList P ops Q rest (a.put o.dst v) w):wpList P ops Q (o::rest) a w:=by
 obtain⟨vx,v,h1,h2,h3⟩:=h
 exact Xas hgd (Xsd ho h1 h2) h3
theorem Yag (w:World)(b:Nat)(t:ByteArray)(st en:Nat)(at_:Int)(er:Nat)(h:WS w b t st en at_ er)(hE:Env w)(hb9:9≤b)(ht2:t.size≤1000000):
    Calls prog 192 #[.pointer (some ⟨b,0,none⟩)] w (Xcy w b t en er (fun T=>nxt T fun x T=>fe (Xid x) ((fun T=>nxt T fun x T=>fe (Xiu x) (fin T)) T))):=by
 have ht:t.size≤1000000:=by omega
 obtain⟨zs,hzs⟩:=xq (Xmc 0 Xic)
 obtain⟨ks,hks⟩:=xq (Xmc 2 Xic)
 have ZCL:Hid (Cl 56 zs):=Hd (by rw[hzs];exact Xd7 0 _ (by simp[Xic]) Xer)
 have KCL:Hid (Cl 56 ks):=Hd (by rw[hks];exact Xd7 2 _ (by simp[Xic]) Xer)
 have BK:Hid (∀w,(Instr.build 139 #[(0,.int .i64 2)]).run prog w=.ok (.agg ks) w):=Hd (fun w=>by rw[hks];exact Xgh w 2)
 have hbw:=h.lt
 have STN:Hid (∀zz:Array Value,zz.size=56→Sv 139 ⟨w.heap.size+1,0,none⟩ (.agg ks) ((w.alloc (.cells zs 139)).alloc (.cells zz 139)) ((w.alloc (.cells zs 139)).alloc (.cells ks 139))):=Hd (fun zz hz=>by
  have:=run_storeVar_new (P:=prog) (w.alloc (.cells zs 139)) 139 zz ks (by rw[KCL.o.1];exact Xax) (by rw[hz,KCL.o.1]) KCL.o.2
  rwa [World.size_alloc] at this)
 obtain⟨w0,hw0⟩:=xq ((w.alloc (.cells zs 139)).alloc (.cells ks 139))
 have bA:Bw w (w.alloc (.cells zs 139)):=(zR _ w).alloc (zL _) _
 have b0:Bw w w0:=by rw[hw0];exact bA.alloc bA.size _
 have h0:=h.below b0
 have E0:=hE.on b0
 have F0:Hid (Fr1 b w w0):=Hd (Fr1.of_below b0)
 have Z0:Hid (w0.heap[w.heap.size]?=some (.cells zs 139 (0,0))):=Hd (by
  rw[hw0]
  exact(((zR _ (w.alloc (.cells zs 139))).alloc (zL _) _).block w.heap.size (by simp)).trans (zN w _))
 have hm0:MB w0 (w.heap.size+1):=⟨ks,by rw[hw0];have:=zN (w.alloc (.cells zs 139)) (.cells ks 139);rwa [World.size_alloc] at this,KCL.o⟩
 have M0:=Hd hm0
 rw[hzs] at STN
 have HW:Hid (w0=(w.alloc (.cells (Xmc 0 Xic) 139)).alloc (.cells ks 139)):=Hd (by rw[hw0,hzs])
 have H0:=Hd h0;have HE0:=Hd E0
 have HB9:=Hd hb9;have HT:=Hd ht
 clear h hE hzs hks hw0 bA b0 h0 E0 hm0
 have C1:=Hd (Xmi w0 b t st en at_ er H0.o HE0.o hb9 ht)
 go_enter func192,ntmps192
 go_wp2_with (first
  |((with_reducible refine Xdv 139 rfl _ rfl ?_);refine⟨_,_,rfl,BK.o _,?_⟩)
  |((with_reducible refine Xab 139 rfl _ _ rfl ?_);refine⟨_,_,_,rfl,rfl,STN.o _ rfl,?_⟩))
 have C1':Hid (∀wq,w0=wq→Calls prog 191 #[.pointer (some ⟨b,0,none⟩)] wq (Xme w0 b t en er Xid fun v=>∃cs,v=.agg cs∧Cl 32 cs)):=Hd (by rintro wq rfl;exact C1.o)
 refine(C1'.o _ HW.o).mono ?_
 clear C1 C1' HW STN BK
 rintro e v1 ⟨v,st1,en1,a1,er1,rfl,⟨cs1,rfl,hcl1⟩,h1,f1,hsl1⟩
 have MV1:=Hd (M0.o.fr f1 (by omega))
 have ZV1:=Hd ((f1.other w.heap.size (zY Z0.o) (by omega)).trans Z0.o)
 have FV1:=Hd (F0.o.trans f1)
 have EV1:=Hd (Xbu HE0.o hb9 f1)
 have HSL1:=Hd hsl1
 obtain⟨ST1,hm1,ff1⟩:=MV1.o.store 1 32 (by omega) 26 hcl1 Xa3
 obtain⟨y1,hy1⟩:=xq (v1.setCells (w.heap.size+1) 1 cs1.toList)
 rw[←hy1] at ST1 hm1 ff1
 have ST1:=Hd ST1
 have M1:=Hd hm1
 have H1:=Hd (h1.fr ff1 (by omega))
 have F1:=Hd (FV1.o.new ff1 (by omega))
 have Z1:=Hd ((ff1.other w.heap.size (zY ZV1.o) (by omega)).trans ZV1.o)
 have HE1:=Hd (Xbu EV1.o (by have:=HB9.o;have:=hbw;omega) ff1)
 have HY1:=Hd hy1
 clear h1 f1 hsl1 ff1 hy1 hm1 hcl1
 have C2:=Hd (Xlc y1 b t st1 en1 a1 er1 H1.o HE1.o hb9 ht)
 go_wp2_with ((with_reducible refine Xab 26 rfl _ _ rfl ?_);refine⟨_,_,_,rfl,rfl,ST1.o,?_⟩)
 refine C2.o.mono ?_
 rintro e v2 ⟨v,st2,en2,a2,er2,rfl,⟨s2,rfl,hsz2⟩,h2,f2,hsl2⟩
 have MV2:=Hd (M1.o.fr f2 (by omega))
 have ZV2:=Hd ((f2.other w.heap.size (zY Z1.o) (by omega)).trans Z1.o)
 have FV2:=Hd (F1.o.trans f2)
 have EV2:=Hd (Xbu HE1.o hb9 f2)
 have HSL2:=Hd hsl2
 obtain⟨u2,hc2,hf2⟩:=MV2.o.cell (j:=33) (by omega)
 obtain⟨y2,hy2⟩:=xq (v2.setCell ⟨w.heap.size+1,33,none⟩ (.string s2))
 have M2:Hid (MB y2 (w.heap.size+1)):=Hd (by rw[hy2];exact MV2.o.setCell 33 rfl)
 have ff2:Fr1 (w.heap.size+1) v2 y2:=by rw[hy2];exact Fr1.setC _
 have H2:=Hd (h2.fr ff2 (by omega))
 have F2:=Hd (FV2.o.new ff2 (by omega))
 have Z2:=Hd ((ff2.other w.heap.size (zY ZV2.o) (by omega)).trans ZV2.o)
 have HE2:=Hd (Xbu EV2.o (by have:=HB9.o;have:=hbw;omega) ff2)
 have HY2:=Hd hy2
 clear h2 f2 hsl2 ff2 hy2
 obtain⟨cs,hp,hcl⟩:=M2.o
 have LD:=Hd (Xal y2 (w.heap.size+1) 56 _ _ cs _ _ hp rfl underlying139 Xax hcl.1)
 have ST:=Hd (run_storeVar_row (P:=prog) y2 w.heap.size _ 139 zs cs Z2.o (by rw[hcl.1];exact Xax) (by rw[hcl.1,ZCL.o.1]) hcl.2)
 have W2:=Hd (setRow_heap y2 w.heap.size zs cs _ _ Z2.o)
 have CSZ:Hid (cs.size=56):=Hd hcl.1
 have POST:Hid (Xcy w b t en er (fun T=>nxt T fun x T=>fe (Xid x) ((fun T=>nxt T fun x T=>fe (Xiu x) (fin T)) T)) (.returned (.agg cs)) (y2.setRow w.heap.size cs)):=Hd ⟨cs,st2,en2,a2,er2,rfl,hcl,H2.o.row (by omega) cs,F2.o.row (zL _) cs,((HSL1.o (fun T=>nxt T fun x T=>fe (Xiu x) (fin T))).trans (HSL2.o fin)).symm⟩
 clear hp hcl
 go_upto_region 4 with fail
 rw[←HY2.o]
 refine wp_region_list ?_
 simp only[]
 refine Xac 139 rfl _ rfl ⟨_,_,rfl,LD.o,?_⟩
 go_wp2_with ((with_reducible refine Xab 139 rfl _ _ rfl ?_);refine⟨_,_,_,rfl,rfl,ST.o,?_⟩)
 exact zP (results_cell_row results192 _ _ w.heap.size _ _ _ _ rfl W2.o underlying139 rfl (by rw[CSZ.o];exact Xax)) rfl POST.o
theorem Yae (w:World)(b:Nat)(t:ByteArray)(st en:Nat)(at_:Int)(er:Nat)(h:WS w b t st en at_ er)(hE:Env w)(hb9:9≤b)(ht2:t.size≤1000000):
    Calls prog 198 #[.pointer (some ⟨b,0,none⟩)] w (Xcy w b t en er (fun T=>nxt T fun x T=>fe (Xiu x) ((fun T=>nxt T fun x T=>fe ((Xfi 0 1000000) x) (fin T)) T))):=by
 have ht:t.size≤1000000:=by omega
 obtain⟨zs,hzs⟩:=xq (Xmc 0 Xic)
 obtain⟨ks,hks⟩:=xq (Xmc 4 Xic)
 have ZCL:Hid (Cl 56 zs):=Hd (by rw[hzs];exact Xd7 0 _ (by simp[Xic]) Xer)
 have KCL:Hid (Cl 56 ks):=Hd (by rw[hks];exact Xd7 4 _ (by simp[Xic]) Xer)
 have BK:Hid (∀w,(Instr.build 139 #[(0,.int .i64 4)]).run prog w=.ok (.agg ks) w):=Hd (fun w=>by rw[hks];exact Xgh w 4)
 have hbw:=h.lt
 have STN:Hid (∀zz:Array Value,zz.size=56→Sv 139 ⟨w.heap.size+1,0,none⟩ (.agg ks) ((w.alloc (.cells zs 139)).alloc (.cells zz 139)) ((w.alloc (.cells zs 139)).alloc (.cells ks 139))):=Hd (fun zz hz=>by
  have:=run_storeVar_new (P:=prog) (w.alloc (.cells zs 139)) 139 zz ks (by rw[KCL.o.1];exact Xax) (by rw[hz,KCL.o.1]) KCL.o.2
  rwa [World.size_alloc] at this)
 obtain⟨w0,hw0⟩:=xq ((w.alloc (.cells zs 139)).alloc (.cells ks 139))
 have bA:Bw w (w.alloc (.cells zs 139)):=(zR _ w).alloc (zL _) _
 have b0:Bw w w0:=by rw[hw0];exact bA.alloc bA.size _
 have h0:=h.below b0
 have E0:=hE.on b0
 have F0:Hid (Fr1 b w w0):=Hd (Fr1.of_below b0)
 have Z0:Hid (w0.heap[w.heap.size]?=some (.cells zs 139 (0,0))):=Hd (by
  rw[hw0]
  exact(((zR _ (w.alloc (.cells zs 139))).alloc (zL _) _).block w.heap.size (by simp)).trans (zN w _))
 have hm0:MB w0 (w.heap.size+1):=⟨ks,by rw[hw0];have:=zN (w.alloc (.cells zs 139)) (.cells ks 139);rwa [World.size_alloc] at this,KCL.o⟩
 have M0:=Hd hm0
 rw[hzs] at STN
 have HW:Hid (w0=(w.alloc (.cells (Xmc 0 Xic) 139)).alloc (.cells ks 139)):=Hd (by rw[hw0,hzs])
 have H0:=Hd h0;have HE0:=Hd E0
 have HB9:=Hd hb9;have HT:=Hd ht
 clear h hE hzs hks hw0 bA b0 h0 E0 hm0
 have C1:=Hd (Xlc w0 b t st en at_ er H0.o HE0.o hb9 ht)
 go_enter func198,ntmps198
 go_wp2_with (first
  |((with_reducible refine Xdv 139 rfl _ rfl ?_);refine⟨_,_,rfl,BK.o _,?_⟩)
  |((with_reducible refine Xab 139 rfl _ _ rfl ?_);refine⟨_,_,_,rfl,rfl,STN.o _ rfl,?_⟩))
 have C1':Hid (∀wq,w0=wq→Calls prog 193 #[.pointer (some ⟨b,0,none⟩)] wq (Xme w0 b t en er Xiu fun v=>∃s,v=.string s∧s.size≤t.size)):=Hd (by rintro wq rfl;exact C1.o)
 refine(C1'.o _ HW.o).mono ?_
 clear C1 C1' HW STN BK
 rintro e v1 ⟨v,st1,en1,a1,er1,rfl,⟨s1,rfl,hsz1⟩,h1,f1,hsl1⟩
 have MV1:=Hd (M0.o.fr f1 (by omega))
 have ZV1:=Hd ((f1.other w.heap.size (zY Z0.o) (by omega)).trans Z0.o)
 have FV1:=Hd (F0.o.trans f1)
 have EV1:=Hd (Xbu HE0.o hb9 f1)
 have HSL1:=Hd hsl1
 obtain⟨u1,hc1,hf1⟩:=MV1.o.cell (j:=33) (by omega)
 obtain⟨y1,hy1⟩:=xq (v1.setCell ⟨w.heap.size+1,33,none⟩ (.string s1))
 have M1:Hid (MB y1 (w.heap.size+1)):=Hd (by rw[hy1];exact MV1.o.setCell 33 rfl)
 have ff1:Fr1 (w.heap.size+1) v1 y1:=by rw[hy1];exact Fr1.setC _
 have H1:=Hd (h1.fr ff1 (by omega))
 have F1:=Hd (FV1.o.new ff1 (by omega))
 have Z1:=Hd ((ff1.other w.heap.size (zY ZV1.o) (by omega)).trans ZV1.o)
 have HE1:=Hd (Xbu EV1.o (by have:=HB9.o;have:=hbw;omega) ff1)
 have HY1:=Hd hy1
 clear h1 f1 hsl1 ff1 hy1
 have C2:=Hd (Xin y1 b t st1 en1 a1 er1 H1.o HE1.o hb9 ht 0 1000000 (by omega) (by omega))
 go_wp2_with fail
 rw[←HY1.o]
 refine C2.o.mono ?_
 rintro e v2 ⟨v,st2,en2,a2,er2,rfl,⟨n2,rfl⟩,h2,f2,hsl2⟩
 have MV2:=Hd (M1.o.fr f2 (by omega))
 have ZV2:=Hd ((f2.other w.heap.size (zY Z1.o) (by omega)).trans Z1.o)
 have FV2:=Hd (F1.o.trans f2)
 have EV2:=Hd (Xbu HE1.o hb9 f2)
 have HSL2:=Hd hsl2
 obtain⟨u2,hc2,hf2⟩:=MV2.o.cell (j:=34) (by omega)
 obtain⟨y2,hy2⟩:=xq (v2.setCell ⟨w.heap.size+1,34,none⟩ (.int .i64 n2))
 have M2:Hid (MB y2 (w.heap.size+1)):=Hd (by rw[hy2];exact MV2.o.setCell 34 rfl)
 have ff2:Fr1 (w.heap.size+1) v2 y2:=by rw[hy2];exact Fr1.setC _
 have H2:=Hd (h2.fr ff2 (by omega))
 have F2:=Hd (FV2.o.new ff2 (by omega))
 have Z2:=Hd ((ff2.other w.heap.size (zY ZV2.o) (by omega)).trans ZV2.o)
 have HE2:=Hd (Xbu EV2.o (by have:=HB9.o;have:=hbw;omega) ff2)
 have HY2:=Hd hy2
 clear h2 f2 hsl2 ff2 hy2
 obtain⟨cs,hp,hcl⟩:=M2.o
 have LD:=Hd (Xal y2 (w.heap.size+1) 56 _ _ cs _ _ hp rfl underlying139 Xax hcl.1)
 have ST:=Hd (run_storeVar_row (P:=prog) y2 w.heap.size _ 139 zs cs Z2.o (by rw[hcl.1];exact Xax) (by rw[hcl.1,ZCL.o.1]) hcl.2)
 have W2:=Hd (setRow_heap y2 w.heap.size zs cs _ _ Z2.o)
 have CSZ:Hid (cs.size=56):=Hd hcl.1
 have POST:Hid (Xcy w b t en er (fun T=>nxt T fun x T=>fe (Xiu x) ((fun T=>nxt T fun x T=>fe ((Xfi 0 1000000) x) (fin T)) T)) (.returned (.agg cs)) (y2.setRow w.heap.size cs)):=Hd ⟨cs,st2,en2,a2,er2,rfl,hcl,H2.o.row (by omega) cs,F2.o.row (zL _) cs,((HSL1.o (fun T=>nxt T fun x T=>fe ((Xfi 0 1000000) x) (fin T))).trans (HSL2.o fin)).symm⟩
 clear hp hcl
 go_upto_region 4 with fail
 rw[←HY2.o]
 refine wp_region_list ?_
 simp only[]
 refine Xac 139 rfl _ rfl ⟨_,_,rfl,LD.o,?_⟩
 go_wp2_with ((with_reducible refine Xab 139 rfl _ _ rfl ?_);refine⟨_,_,_,rfl,rfl,ST.o,?_⟩)
 exact zP (results_cell_row results198 _ _ w.heap.size _ _ _ _ rfl W2.o underlying139 rfl (by rw[CSZ.o];exact Xax)) rfl POST.o
theorem Yad (w:World)(b:Nat)(t:ByteArray)(st en:Nat)(at_:Int)(er:Nat)(h:WS w b t st en at_ er)(hE:Env w)(hb9:9≤b)(ht2:t.size≤1000000):
    Calls prog 199 #[.pointer (some ⟨b,0,none⟩)] w (Xcy w b t en er (fun T=>nxt T fun x T=>fe ((Xfi 1 1000) x) ((fun T=>nxt T fun x T=>fe (Xgl x) (fin T)) T))):=by
 have ht:t.size≤1000000:=by omega
 obtain⟨zs,hzs⟩:=xq (Xmc 0 Xic)
 obtain⟨ks,hks⟩:=xq (Xmc 5 Xic)
 have ZCL:Hid (Cl 56 zs):=Hd (by rw[hzs];exact Xd7 0 _ (by simp[Xic]) Xer)
 have KCL:Hid (Cl 56 ks):=Hd (by rw[hks];exact Xd7 5 _ (by simp[Xic]) Xer)
 have BK:Hid (∀w,(Instr.build 139 #[(0,.int .i64 5)]).run prog w=.ok (.agg ks) w):=Hd (fun w=>by rw[hks];exact Xgh w 5)
 have hbw:=h.lt
 have STN:Hid (∀zz:Array Value,zz.size=56→Sv 139 ⟨w.heap.size+1,0,none⟩ (.agg ks) ((w.alloc (.cells zs 139)).alloc (.cells zz 139)) ((w.alloc (.cells zs 139)).alloc (.cells ks 139))):=Hd (fun zz hz=>by
  have:=run_storeVar_new (P:=prog) (w.alloc (.cells zs 139)) 139 zz ks (by rw[KCL.o.1];exact Xax) (by rw[hz,KCL.o.1]) KCL.o.2
  rwa [World.size_alloc] at this)
 obtain⟨w0,hw0⟩:=xq ((w.alloc (.cells zs 139)).alloc (.cells ks 139))
 have bA:Bw w (w.alloc (.cells zs 139)):=(zR _ w).alloc (zL _) _
 have b0:Bw w w0:=by rw[hw0];exact bA.alloc bA.size _
 have h0:=h.below b0
 have E0:=hE.on b0
 have F0:Hid (Fr1 b w w0):=Hd (Fr1.of_below b0)
 have Z0:Hid (w0.heap[w.heap.size]?=some (.cells zs 139 (0,0))):=Hd (by
  rw[hw0]
  exact(((zR _ (w.alloc (.cells zs 139))).alloc (zL _) _).block w.heap.size (by simp)).trans (zN w _))
 have hm0:MB w0 (w.heap.size+1):=⟨ks,by rw[hw0];have:=zN (w.alloc (.cells zs 139)) (.cells ks 139);rwa [World.size_alloc] at this,KCL.o⟩
 have M0:=Hd hm0
 rw[hzs] at STN
 have HW:Hid (w0=(w.alloc (.cells (Xmc 0 Xic) 139)).alloc (.cells ks 139)):=Hd (by rw[hw0,hzs])
 have H0:=Hd h0;have HE0:=Hd E0
 have HB9:=Hd hb9;have HT:=Hd ht
 clear h hE hzs hks hw0 bA b0 h0 E0 hm0
 have C1:=Hd (Xin w0 b t st en at_ er H0.o HE0.o hb9 ht 1 1000 (by omega) (by omega))
 go_enter func199,ntmps199
 go_wp2_with (first
  |((with_reducible refine Xdv 139 rfl _ rfl ?_);refine⟨_,_,rfl,BK.o _,?_⟩)
  |((with_reducible refine Xab 139 rfl _ _ rfl ?_);refine⟨_,_,_,rfl,rfl,STN.o _ rfl,?_⟩))
 have C1':Hid (∀wq,w0=wq→Calls prog 195 #[.pointer (some ⟨b,0,none⟩),.int .i64 ((1:Nat):Int),.int .i64 ((1000:Nat):Int)] wq (Xme w0 b t en er (Xfi 1 1000) fun v=>∃n:Int,v=.int .i64 n)):=Hd (by rintro wq rfl;exact C1.o)
 refine(C1'.o _ HW.o).mono ?_
 clear C1 C1' HW STN BK
 rintro e v1 ⟨v,st1,en1,a1,er1,rfl,⟨n1,rfl⟩,h1,f1,hsl1⟩
 have MV1:=Hd (M0.o.fr f1 (by omega))
 have ZV1:=Hd ((f1.other w.heap.size (zY Z0.o) (by omega)).trans Z0.o)
 have FV1:=Hd (F0.o.trans f1)
 have EV1:=Hd (Xbu HE0.o hb9 f1)
 have HSL1:=Hd hsl1
 obtain⟨u1,hc1,hf1⟩:=MV1.o.cell (j:=38) (by omega)
 obtain⟨y1,hy1⟩:=xq (v1.setCell ⟨w.heap.size+1,38,none⟩ (.int .i64 n1))
 have M1:Hid (MB y1 (w.heap.size+1)):=Hd (by rw[hy1];exact MV1.o.setCell 38 rfl)
 have ff1:Fr1 (w.heap.size+1) v1 y1:=by rw[hy1];exact Fr1.setC _
 have H1:=Hd (h1.fr ff1 (by omega))
 have F1:=Hd (FV1.o.new ff1 (by omega))
 have Z1:=Hd ((ff1.other w.heap.size (zY ZV1.o) (by omega)).trans ZV1.o)
 have HE1:=Hd (Xbu EV1.o (by have:=HB9.o;have:=hbw;omega) ff1)
 have HY1:=Hd hy1
 clear h1 f1 hsl1 ff1 hy1
 have C2:=Hd (Xv1 y1 b t st1 en1 a1 er1 H1.o HE1.o hb9 ht)
 go_wp2_with fail
 rw[←HY1.o]
 refine C2.o.mono ?_
 rintro e v2 ⟨v,st2,en2,a2,er2,rfl,⟨cs2,rfl,hcl2⟩,h2,f2,hsl2⟩
 have MV2:=Hd (M1.o.fr f2 (by omega))
 have ZV2:=Hd ((f2.other w.heap.size (zY Z1.o) (by omega)).trans Z1.o)
 have FV2:=Hd (F1.o.trans f2)
 have EV2:=Hd (Xbu HE1.o hb9 f2)
 have HSL2:=Hd hsl2
 obtain⟨ST2,hm2,ff2⟩:=MV2.o.store 39 17 (by omega) 37 hcl2 Xc6
 obtain⟨y2,hy2⟩:=xq (v2.setCells (w.heap.size+1) 39 cs2.toList)
 rw[←hy2] at ST2 hm2 ff2
 have ST2:=Hd ST2
 have M2:=Hd hm2
 have H2:=Hd (h2.fr ff2 (by omega))
 have F2:=Hd (FV2.o.new ff2 (by omega))
 have Z2:=Hd ((ff2.other w.heap.size (zY ZV2.o) (by omega)).trans ZV2.o)
 have HE2:=Hd (Xbu EV2.o (by have:=HB9.o;have:=hbw;omega) ff2)
 have HY2:=Hd hy2
 clear h2 f2 hsl2 ff2 hy2 hm2 hcl2
 obtain⟨cs,hp,hcl⟩:=M2.o
 have LD:=Hd (Xal y2 (w.heap.size+1) 56 _ _ cs _ _ hp rfl underlying139 Xax hcl.1)
 have ST:=Hd (run_storeVar_row (P:=prog) y2 w.heap.size _ 139 zs cs Z2.o (by rw[hcl.1];exact Xax) (by rw[hcl.1,ZCL.o.1]) hcl.2)
 have W2:=Hd (setRow_heap y2 w.heap.size zs cs _ _ Z2.o)
 have CSZ:Hid (cs.size=56):=Hd hcl.1
 have POST:Hid (Xcy w b t en er (fun T=>nxt T fun x T=>fe ((Xfi 1 1000) x) ((fun T=>nxt T fun x T=>fe (Xgl x) (fin T)) T)) (.returned (.agg cs)) (y2.setRow w.heap.size cs)):=Hd ⟨cs,st2,en2,a2,er2,rfl,hcl,H2.o.row (by omega) cs,F2.o.row (zL _) cs,((HSL1.o (fun T=>nxt T fun x T=>fe (Xgl x) (fin T))).trans (HSL2.o fin)).symm⟩
 clear hp hcl
 go_upto_region 4 with((with_reducible refine Xab 37 rfl _ _ rfl ?_);refine⟨_,_,_,rfl,rfl,ST2.o,?_⟩)
 refine wp_region_list ?_
 simp only[]
 refine Xac 139 rfl _ rfl ⟨_,_,rfl,LD.o,?_⟩
 go_wp2_with ((with_reducible refine Xab 139 rfl _ _ rfl ?_);refine⟨_,_,_,rfl,rfl,ST.o,?_⟩)
 exact zP (results_cell_row results199 _ _ w.heap.size _ _ _ _ rfl W2.o underlying139 rfl (by rw[CSZ.o];exact Xax)) rfl POST.o
theorem Ymp (w:World):Ry 189 #[.int .i64 1] w (.string ⟨#[99,97,110,99,101,108]⟩):=by
 go_enter func189,ntmps189
 go_wp2_with fail
 go_ret
 exact⟨rfl,rfl⟩
theorem Ymo (w:World):Ry 189 #[.int .i64 2] w (.string ⟨#[97,112,112,114,111,118,101]⟩):=by
 go_enter func189,ntmps189
 go_wp2_with fail
 go_ret
 exact⟨rfl,rfl⟩
theorem Ymn (w:World):Ry 189 #[.int .i64 3] w (.string ⟨#[100,101,102,105,110,101]⟩):=by
 go_enter func189,ntmps189
 go_wp2_with fail
 go_ret
 exact⟨rfl,rfl⟩
theorem Ymm (w:World):Ry 189 #[.int .i64 4] w (.string ⟨#[114,101,109,111,118,101]⟩):=by
 go_enter func189,ntmps189
 go_wp2_with fail
 go_ret
 exact⟨rfl,rfl⟩
theorem Yml (w:World):Ry 189 #[.int .i64 5] w (.string ⟨#[114,101,107,101,121]⟩):=by
 go_enter func189,ntmps189
 go_wp2_with fail
 go_ret
 exact⟨rfl,rfl⟩
end Go.Proofs.YtjolcnopipbkhaaGreatDoor
/- A map from identities to truth values that the program makes and fills. -/
namespace Go.Proofs.YtjolcnopipbkhaaGreatDoor
open Go.Proofs.Tryz
open Go.RowKit Go.Maps
open Go.ChangeMaps (setBlock heap_setBlock_same heap_setBlock_other)
set_option linter.unusedVariables false
set_option maxHeartbeats 100000000
set_option maxRecDepth 100000
def meS (k:Nat)(ids:List (List Nat)):List MapEntry:=(ids.zipIdx k).map fun p=>{key:=.agg (idA p.1),val:=.bool true,born:=p.2}
def MId (w:World)(b:Nat)(ids:List (List Nat)):Prop:=w.heap[b]?=some (.map (meS 0 ids).toArray ids.length)
theorem MId.lt {w:World}{b:Nat}{ids:List (List Nat)}(h:MId w b ids):b<w.heap.size:=zY h
theorem MId.below {w w':World}{b:Nat}{ids:List (List Nat)}(h:MId w b ids)(hb:Bw w w'):MId w' b ids:=(hb.block b h.lt).trans h
theorem MId.made (w:World):MId (w.alloc (.map #[] 0)) w.heap.size []:=zN w _
theorem Yd1 (ids:List (List Nat))(x:List Nat):meS 0 (ids++[x])=meS 0 ids++[{key:=.agg (idA x),val:=.bool true,born:=ids.length}]:=by
 simp[meS,List.zipIdx_append]
theorem Xok (w:World)(em:Bool){x:List Nat}(hx:IdOk x):(Instr.checkKey em 10000 26 (.agg (idA x))).run prog w=.ok () w:=
 run_checkKey_deep em 9997 3 26 (by kernel_rfl) w 2 (.agg (idA x)) (Xcn x) (by simp[Value.formed,underlying26,Xol,Xag,hx.len]) (Xrv 0 hx)
theorem Xlt (w:World){x:List Nat}(hx:IdOk x):∀(ids:List (List Nat)) (k i:Nat),(∀y∈ids,IdOk y)→
    ∃r,(Instr.findAsking 26 (.agg (idA x)) (meS k ids) i).run prog w=.ok r w∧((x∉ids∧r=none)∨(x∈ids∧∃j,r=some (j,.bool true)))
 |[],_,_,_=>⟨none,rfl,.inl ⟨by simp,rfl⟩⟩
 |y::ids,k,i,hy=>by
  have he:=Xqd w hx (hy y (by simp))
  by_cases h:x=y
  ·subst h
   refine⟨some (i,.bool true),?_,.inr ⟨by simp,i,rfl⟩⟩
   simp only[meS,List.zipIdx_cons,List.map_cons,Instr.findAsking,Sem.run_bind,he,Result.andThen_ok]
   simp
  ·obtain⟨r,h1,h2⟩:=Xlt w hx ids (k+1) (i+1) (fun z hz=>hy z (by simp[hz]))
   refine⟨r,?_,?_⟩
   ·simp only[meS,List.zipIdx_cons,List.map_cons,Instr.findAsking,Sem.run_bind,he,Result.andThen_ok,zW h]
    exact h1
   ·simpa [h] using h2
theorem Xiv (w:World)(k:Value)(es:List MapEntry):(Instr.findKey 26 k es).run prog w=(Instr.findAsking 26 k es).run prog w:=by
 unfold Instr.findKey
 rw[Sem.run_bind,run_underlying underlying26]
 cases es with
 |nil=>rfl
 |cons e es=>rfl
section
variable (w:World) {b:Nat} {ids:List (List Nat)} (h:MId w b ids) (hi:∀y∈ids,IdOk y) {x:List Nat} (hx:IdOk x)
include h hi hx
theorem Xzc:(Instr.lookup 135 (.map (some b)) (.agg (idA x)) false).run prog w=.ok (.bool (decide (x∈ids))) w:=by
 obtain⟨r,h1,h2⟩:=Xlt w hx ids 0 0 hi
 have z:(zeroValue 4).run prog w=.ok (.bool false) w:=by kernel_rfl
 rcases h2 with⟨h2,rfl⟩|⟨h2,j,rfl⟩
 ·simp[Instr.lookup,run_underlying underlying135,MapKept.run_getObj_map h,Xok w _ hx,Xiv,h1,z,Result.andThen,h2]
 ·simp[Instr.lookup,run_underlying underlying135,MapKept.run_getObj_map h,Xok w _ hx,Xiv,h1,Result.andThen,h2]
theorem Xxq (hn:x∉ids):∃w',(Instr.mapUpdate 135 (.map (some b)) (.agg (idA x)) (.bool true)).run prog w=.ok () w'∧MId w' b (ids++[x])∧w.grownBy w' (some b):=by
 obtain⟨r,h1,h2⟩:=Xlt w hx ids 0 0 hi
 rcases h2 with⟨_,rfl⟩|⟨h2,_⟩
 ·refine⟨setBlock w b (.map ((meS 0 ids).toArray.push {key:=.agg (idA x),val:=.bool true,born:=ids.length}) (ids.length+1)),by simp[Instr.mapUpdate,run_underlying underlying135,MapKept.run_getObj_map h,Xok w _ hx,Xiv,h1,MapKept.run_setObj_map _ h,Result.andThen,setBlock],?_,?_⟩
  ·unfold MId
   rw[Yd1,heap_setBlock_same h]
   simp
  ·exact⟨rfl,rfl,rfl,by simp[setBlock],fun i _ hi=>heap_setBlock_other h _ (fun e=>hi (by rw[e]))⟩
 ·exact absurd h2 hn
end
end Go.Proofs.YtjolcnopipbkhaaGreatDoor
/- strings.Join; groupname.FormatList. -/
namespace Go.Proofs.YtjolcnopipbkhaaGreatDoor
open Go.Proofs.Tryz
open Go.RowKit Go.Maps
set_option linter.unusedVariables false
set_option maxHeartbeats 100000000
set_option maxRecDepth 100000
def Xu9 (c:Nat)(ls:List (List Nat))(w:World)(e:Ending)(w':World):Prop:=∃t:ByteArray,e=.returned (.string t)∧bs t=Xaw [c] ls∧Bw w w'
theorem Xuj (w:World)(v:Value)(gs:List ByteArray)(c:UInt8)(hr:SRow w v gs)(hl:gs.length≤1000000)(hlen:(Xaw [c.toNat] (gs.map bs)).length≤140737488355328):
    Calls prog 78 #[v,.string ⟨#[c]⟩] w (Xu9 c.toNat (gs.map bs) w):=by
 have hj:∀l:List ByteArray,(Lib.join (l.map (·.data.toList)) [c]).map UInt8.toNat=Xaw [c.toNat] (l.map bs):=by
  intro l
  have:=Xwj [c] (l.map (·.data.toList))
  rw[List.map_map] at this
  exact this
 obtain⟨a,cap,rfl,hcap,hcells⟩:=hr
 by_cases h0:gs=[]
 ·subst h0
  exact(Xgm a cap ⟨#[c]⟩ w).mono fun e w' h=>⟨⟨#[]⟩,h.1,rfl,by rw[h.2];exact zR _ _⟩
 ·obtain⟨b,off,rfl,hb,hcl⟩:=hcells h0
  refine(Xk1 b off cap gs ⟨#[c]⟩ w (fun j x hx=>?_) hb (by omega) hcap ?_).mono fun e w' h=>⟨_,h.1,?_,h.2⟩
  ·obtain⟨hj',rfl⟩:=List.getElem?_eq_some_iff.1 hx
   exact hcl j hj'
  ·have:=congrArg List.length (hj gs)
   rw[List.length_map] at this
   show(Lib.join (gs.map (·.data.toList)) [c]).length≤_
   rw[this];exact hlen
  ·rw[Xjo];exact hj gs
theorem Xmr {f:List Nat→Nat}{d:Nat}(hd:d≠0):∀(r pre:List (List Nat)),Xc9 f d pre r=0→∀x∈r,f x=0
 |[],_,_,x,hx=>by simp at hx
 |y::r,pre,h,x,hx=>by
  rw[Xc9] at h
  by_cases h1:f y=0
  ·rw[qN (by simpa using h1)] at h
   split at h
   ·exact absurd h hd
   ·rcases List.mem_cons.1 hx with rfl|hx
    ·exact h1
    ·exact Xmr hd r _ h x hx
  ·rw[qP h1] at h;exact absurd h h1
theorem Xms {f:List Nat→Nat}{l:List (List Nat)}(h:Xcd f l=0):l.length≤20∧∀x∈l,f x=0:=by
 unfold Xcd at h
 by_cases h1:20<l.length
 ·rw[qP h1] at h;omega
 ·rw[qN h1] at h;exact⟨by omega,Xmr (by decide) _ _ h⟩
theorem Xv6 {x:List Nat}(h:Xbf x=0):x.length≤80:=by
 unfold Xbf at h
 by_cases h1:80<x.length
 ·rw[qP h1] at h;omega
 ·omega
theorem Xk5 (m:Nat)(c:Nat):∀l:List (List Nat),(∀x∈l,x.length≤m)→(Xaw [c] l).length≤l.length*(m+1)
 |[],_=>by simp[Xaw]
 |[x],h=>by have:=h x (by simp);simp[Xaw];omega
 |x::y::r,h=>by
  have h1:=h x (by simp)
  have h2:=Xk5 m c (y::r) (fun z hz=>h z (by simp[hz]))
  rw[Xaw]
  simp only[List.length_append,List.length_cons,List.length_nil] at h2⊢
  rw[Nat.succ_mul];omega
def Xs6 (err:Nat)(text:List Nat)(w:World)(e:Ending)(w':World):Prop:=
 ∃t:ByteArray,e=.returned (.tuple #[.string t,.int .i64 (err:Nat)])∧(err=0→bs t=text)∧(err≠0→t=⟨#[]⟩)∧Bw w w'
theorem Xqa (w:World)(v:Value)(gs:List ByteArray)(hr:SRow w v gs)(hl:gs.length≤1000000)(hz:∀g∈gs,g.size≤1000000)(hE:Env w):
    Calls prog 34 #[v] w (Xs6 (Xbt (gs.map bs)) (Xaw [44] (gs.map bs)) w):=by
 by_cases h0:gs=[]
 ·subst h0
  obtain⟨a,cap,rfl,_,_⟩:=hr
  clear hl hz hE
  go_enter func34,ntmps34
  go_wp2_with fail
  go_ret2
  exact⟨⟨#[]⟩,rfl,(fun h=>by cases h),(fun _=>rfl),zR _ _⟩
 ·have hv:∃a cap,v=.slice a gs.length cap:=by obtain⟨a,cap,h,_⟩:=hr;exact⟨a,cap,h⟩
  obtain⟨a,cap,rfl⟩:=hv
  have hn0:gs.length≠0:=fun e=>h0 (List.length_eq_zero_iff.1 e)
  have C:=Hd (Xqo w _ gs hr hl hz hE)
  have G:Hid (Xbt (gs.map bs)=Xcd Xbf (gs.map bs)):=Hd (by unfold Xbt;rw[qN (by simpa using h0)])
  have HR:=Hd hr
  have J:Hid (∀w',Bw w w'→Xcd Xbf (gs.map bs)=0→Calls prog 78 #[.slice a gs.length cap,.string ⟨#[44]⟩] w' (Xu9 44 (gs.map bs) w')):=Hd (fun w' hb h=>by
   obtain⟨q1,q2⟩:=Xms h
   have:=Xk5 80 44 (gs.map bs) (fun x hx=>Xv6 (q2 x hx))
   exact Xuj w' _ gs 44 (hr.below hb) hl (by show(Xaw [44] (gs.map bs)).length≤_;omega))
  obtain⟨n,hn⟩:=xq gs.length
  rw[←hn] at hn0 C J⊢
  have qn:((n:Int)==0)=false:=Xaj (by omega)
  obtain⟨m,hm⟩:=xq (Xcd Xbf (gs.map bs))
  rw[←hm] at C G J
  rw[G.o]
  clear hr hl hz hE hn hn0 hm h0
  go_enter func34,ntmps34
  go_wp2_with fail
  refine C.o.mono ?_
  rintro e w1 ⟨rfl,hb1⟩
  have B1:=Hd hb1
  clear hb1 C
  by_cases m0:m=0
  ·have q0:((m:Int) !=0)=false:=Xau (by omega)
   have K:=Hd (J.o w1 B1.o m0)
   have M0:=Hd m0
   clear m0 J
   go_wp2_with fail
   refine K.o.mono ?_
   rintro e w2 ⟨t,rfl,ht,hb2⟩
   have B2:=bh B1 hb2
   have HT:=Hd ht
   clear hb2 ht K
   go_wp2_with fail
   go_ret2
   exact⟨t,by rw[M0.o];rfl,(fun _=>HT.o),(fun h=>absurd M0.o h),B2.o⟩
  ·have q0:((m:Int) !=0)=true:=Xam (by omega)
   have M0:=Hd m0
   clear m0 J
   go_wp2_with fail
   go_ret2
   exact⟨⟨#[]⟩,rfl,(fun h=>absurd h M0.o),(fun _=>rfl),B1.o⟩
section
variable {P:Program} {ops:Array Oper} {rest:List Oper} {o:Oper} {a:Act} {w w':World} {Q:Exit→Act→World→Prop} {v:Value}
theorem Xsb {t:TypeId}{m x:Operand}{ok:Bool}{mv kv:Value}(ho:o.op=.lookup t m x ok)(hm:a.eval m=mv)(hx:a.eval x=kv)(h:(Instr.lookup t mv kv ok).run P w=.ok v w'):(execOp a.eval o).run P w=.ok (.value v) w':=by
 unfold execOp
 simp only[ho,hm,hx,Sem.run_bind,Sem.run_pure,Result.andThen_ok,h]
theorem Xl9 {t:TypeId}{m x y:Operand}{mv kv yv:Value}(ho:o.op=.mapUpdate t m x y)(hm:a.eval m=mv)(hx:a.eval x=kv)(hy:a.eval y=yv)(h:(Instr.mapUpdate t mv kv yv).run P w=.ok () w'):(execOp a.eval o).run P w=.ok .skip w':=by
 unfold execOp
 simp only[ho,hm,hx,hy,Sem.run_bind,Sem.run_pure,Result.andThen_ok,h]
theorem Xgr (t:TypeId)(hgd:o.guard=none)(m x:Operand)(ho:o.op=.lookup t m x false)(h:∃mv kv v,a.eval m=mv∧a.eval x=kv∧(Instr.lookup t mv kv false).run P w=.ok v w∧wpList P ops Q rest (a.put o.dst v) w):wpList P ops Q (o::rest) a w:=by
 obtain⟨mv,kv,v,h1,h2,h3,h4⟩:=h
 exact Xas hgd (Xsb ho h1 h2 h3) h4
theorem Xlz (t:TypeId)(hgd:o.guard=none)(m x y:Operand)(ho:o.op=.mapUpdate t m x y)(h:∃mv kv yv w',a.eval m=mv∧a.eval x=kv∧a.eval y=yv∧(Instr.mapUpdate t mv kv yv).run P w=.ok () w'∧wpList P ops Q rest (a.put o.dst undef) w'):wpList P ops Q (o::rest) a w:=by
 obtain⟨mv,kv,yv,w',h1,h2,h3,h4,h5⟩:=h
 exact Xfn hgd (Xl9 ho h1 h2 h3 h4) h5
end
def cnF (ids:List (List Nat))(x:List Nat):Nat:=if x=zero32 then 1 else if x∈ids then 7 else 0
def Yb5 (w:World)(b:Nat)(ids:List (List Nat))(x:List Nat)(e:Ending)(w':World):Prop:=
 e=.returned (.int .i64 (cnF ids x:Nat))∧(cnF ids x=0→MId w' b (ids++[x]))∧Fr1 b w w'
theorem Fr1.grown {b:Nat}{w w':World}(h:w.grownBy w' (some b)):Fr1 b w w':=⟨h.os,h.tape,h.output,h.size,fun k hk hne=>h.block k hk (fun e=>hne (by cases e;rfl))⟩
theorem Xqm (w:World)(b:Nat)(ids:List (List Nat))(hm:MId w b ids)(hi:∀y∈ids,IdOk y){x:List Nat}(hx:IdOk x):
    Calls prog 89 #[.agg (idA x),.map (some b)] w (Yb5 w b ids x):=by
 obtain⟨cs,hcs⟩:=xq (idA x)
 obtain⟨p,hp⟩:=xq w.heap.size
 have B0:Hid (Bw w (w.alloc (.cells cs 26))):=Hd ((zR _ _).alloc (zL _) _)
 have LDW:Hid (∀w',Below (w.alloc (.cells cs 26)).heap.size (w.alloc (.cells cs 26)) w'→Ld 26 ⟨w.heap.size,0,none⟩ w' (.agg cs)):=Hd (fun w' h=>by
  rw[hcs];exact Xkx _ w.heap.size 0 _ _ _ hx.len ((h.block w.heap.size (by simp)).trans (by rw[hcs];exact heap_alloc_last w _)) (Xhd x))
 have Z:=Hd (Xgb (w.alloc (.cells cs 26)) hx)
 have LK:Hid (∀w',Below (w.alloc (.cells cs 26)).heap.size (w.alloc (.cells cs 26)) w'→(Instr.lookup 135 (.map (some b)) (.agg cs) false).run prog w'=.ok (.bool (decide (x∈ids))) w'):=Hd (fun w' h=>by
  rw[hcs];exact Xzc w' ((hm.below B0.o).below h) hi hx)
 have UP:Hid (∀w',Below (w.alloc (.cells cs 26)).heap.size (w.alloc (.cells cs 26)) w'→x∉ids→∃w'',(Instr.mapUpdate 135 (.map (some b)) (.agg cs) (.bool true)).run prog w'=.ok () w''∧MId w'' b (ids++[x])∧w'.grownBy w'' (some b)):=Hd (fun w' h hn=>by
  rw[hcs];exact Xxq w' ((hm.below B0.o).below h) hi hx hn)
 have LD0:=LDW.o _ (zR _ _)
 have HL0:=Hd LD0
 have CF:Hid (cnF ids x=if x=zero32 then 1 else if x∈ids then 7 else 0):=Hd rfl
 rw[←hcs] at Z⊢
 clear hcs hp hm hi hx LD0
 go_enter func89,ntmps89
 go_upto_region 1 with fail
 refine wp_region_list ?_
 simp only[]
 refine Xac 26 rfl _ rfl ⟨_,_,rfl,HL0.o,?_⟩
 go_wp2_with fail
 refine Z.o.mono ?_
 rintro e w1 ⟨rfl,hb1⟩
 have LD1:=Hd (LDW.o w1 hb1)
 have LK1:=Hd (LK.o w1 hb1)
 have UP1:=Hd (UP.o w1 hb1)
 have B1:=bh B0 hb1
 clear hb1 Z LDW LK UP HL0
 by_cases hz:x=zero32
 ·have C1:Hid (cnF ids x=1):=Hd (by rw[CF.o,qP hz])
  rw[zT hz]
  clear hz
  go_wp2_with fail
  go_ret
  exact⟨by rw[C1.o];rfl,(fun h=>by rw[C1.o] at h;cases h),Fr1.of_below B1.o⟩
 ·rw[zW hz]
  by_cases hm:x∈ids
  ·have C1:Hid (cnF ids x=7):=Hd (by rw[CF.o,qN hz,qP hm])
   rw[zT hm] at LK1
   clear hz hm
   go_wp2_with (first
    |((with_reducible refine Xac 26 rfl _ rfl ?_);refine⟨_,_,rfl,LD1.o,?_⟩)
    |((with_reducible refine Xgr 135 rfl _ _ rfl ?_);refine⟨_,_,_,rfl,rfl,LK1.o,?_⟩))
   go_ret
   exact⟨by rw[C1.o];rfl,(fun h=>by rw[C1.o] at h;cases h),Fr1.of_below B1.o⟩
  ·have C1:Hid (cnF ids x=0):=Hd (by rw[CF.o,qN hz,qN hm])
   obtain⟨w2,hu,hmid,hgr⟩:=UP1.o hm
   have HU:=Hd hu;have HM:=Hd hmid;have HG:=Hd hgr
   rw[zW hm] at LK1
   clear hz hm hu hmid hgr UP1
   go_wp2_with (first
    |((with_reducible refine Xac 26 rfl _ rfl ?_);refine⟨_,_,rfl,LD1.o,?_⟩)
    |((with_reducible refine Xgr 135 rfl _ _ rfl ?_);refine⟨_,_,_,rfl,rfl,LK1.o,?_⟩)
    |((with_reducible refine Xlz 135 rfl _ _ _ rfl ?_);refine⟨_,_,_,_,rfl,rfl,rfl,HU.o,?_⟩))
   go_ret
   exact⟨by rw[C1.o];rfl,(fun _=>HM.o),(Fr1.of_below B1.o).trans (Fr1.grown HG.o)⟩
def zF (x:List Nat):Nat:=if x=zero32 then 1 else 0
theorem Xnu (l:List (List Nat)):Xe9 l=Xcd zF l:=rfl
theorem Xoj {L:List (List Nat)}{j:Nat}(h:j<L.length):Xc9 zF 7 (L.take j) (L.drop j)=if cnF (L.take j) L[j]≠0 then cnF (L.take j) L[j] else Xc9 zF 7 (L.take (j+1)) (L.drop (j+1)):=by
 rw[Xiq zF 7 L j h]
 unfold cnF zF
 by_cases h1:L[j]=zero32
 ·simp[h1]
 ·by_cases h2:L[j]∈L.take j<;>simp[h1,h2]
theorem Xmn (w:World)(v:Value)(ids:List (List Nat))(hr:IRow w v ids)(hl:ids.length≤1000000)(hi:∀y∈ids,IdOk y):
    zJ 45 #[v] w (.int .i64 (Xe9 ids:Nat)):=by
 rw[Xnu]
 obtain⟨n,hn⟩:=xq ids.length
 obtain⟨a,cap,rfl,hcap,hcells⟩:=hr
 rw[←hn] at hcap hl⊢
 have HN:=Hd hn
 have HC:=Hd hcells;have HI:=Hd hi
 by_cases h20:20<n
 ·have F:Hid (Xcd zF ids=9):=Hd (by unfold Xcd;rw[qP (by rw[←hn];exact h20)])
  clear hcells hn hi
  go_enter func45,ntmps45
  go_wp2_with fail
  go_ret
  exact⟨by rw[F.o];rfl,zR _ _⟩
 ·have F:Hid (Xcd zF ids=Xc9 zF 7 (ids.take 0) (ids.drop 0)):=Hd (by unfold Xcd;rw[qN (by rw[←hn];exact h20)];rfl)
  have hmm:=@run_makeMap prog
  clear hcells hn hi
  go_enter func45,ntmps45
  go_wp2_with fail
  clear hmm
  go_loopg [5,6,13] n (fun k s5 s6 i wr=>∃j:Nat,j≤n∧k=n-j∧i=.int .i64 (j:Int)∧Hid (Xcd zF ids=Xc9 zF 7 (ids.take j) (ids.drop j))∧Hid (MId wr w.heap.size (ids.take j))∧Hid (Bw w wr))
  case atStart=>exact⟨0,by omega,rfl,rfl,F,Hd (by simpa using MId.made w),Hd ((zR _ _).alloc (zL _) _)⟩
  case round=>
   obtain⟨j,hj,rfl,rfl,ha,hm,hb⟩:=hrel
   by_cases h:j<n
   ·have hjl:j<ids.length:=by rw[←HN.o];exact h
    obtain⟨b,off,rfl,hbl,hcl⟩:=HC.o (by intro e;rw[e] at hjl;simp at hjl)
    obtain⟨x,hx⟩:=xq (ids[j])
    have hxo:IdOk x:=by rw[hx];exact HI.o _ (zG hjl)
    have LD:Hid (Ld 26 ⟨b,off+j*32,none⟩ wr (.agg (idA x))):=Hd
     (Xah wr b (off+j*32) 26 (idA x) _ underlying26 rfl (by rw[Xag,hxo.len];exact Xa3) (fun k u hu=>by
      rw[hb.o.cell (p:=⟨b,off+j*32+k,none⟩) hbl];exact hcl j hjl k u (by rw[←hx];exact hu)))
    have ST:=Hd (Xoj (L:=ids) hjl)
    rw[←hx] at ST
    have TS:Hid (ids.take (j+1)=ids.take j++[x]):=Hd (by rw[List.take_succ_eq_append_getElem hjl,←hx])
    have hs32:(idA x).size=32:=by rw[Xag,hxo.len]
    have STR:Hid (∀zz:Array Value,zz.size=32→Sv 26 ⟨wr.heap.size,0,none⟩ (.agg (idA x)) (wr.alloc (.cells zz 26)) (wr.alloc (.cells (idA x) 26))):=Hd (fun zz hz=>run_storeVar_new wr 26 zz (idA x) (by rw[hs32];exact Xa3) (by rw[hz,hs32]) (Xek _))
    have LD2:Hid (Ld 26 ⟨wr.heap.size,0,none⟩ (wr.alloc (.cells (idA x) 26)) (.agg (idA x))):=Hd (Xkx _ wr.heap.size 0 _ _ _ hxo.len (heap_alloc_last wr _) (Xhd x))
    have BA:Hid (Bw wr (wr.alloc (.cells (idA x) 26))):=Hd ((zR _ _).alloc (zL _) _)
    have CN:=Hd (Xqm (wr.alloc (.cells (idA x) 26)) w.heap.size (ids.take j) (hm.o.below BA.o) (fun y hy=>HI.o y (List.mem_of_mem_take hy)) hxo)
    have B1:Hid (Bw w (wr.alloc (.cells (idA x) 26))):=Hd (bg hb.o BA.o)
    obtain⟨cs,hcs⟩:=xq (idA x)
    rw[←hcs] at LD STR LD2 CN B1
    obtain⟨m,hmm⟩:=xq (cnF (ids.take j) x)
    unfold Yb5 at CN
    rw[←hmm] at CN ST
    clear hx hcl hcs hs32 hxo BA hm hmm
    go_upto_region 7 with(first
     |((with_reducible refine Xac 26 rfl _ rfl ?_);refine⟨_,_,rfl,LD.o,?_⟩)
     |((with_reducible refine Xab 26 rfl _ _ rfl ?_);refine⟨_,_,_,rfl,rfl,STR.o _ rfl,?_⟩))
    refine wp_region_list ?_
    simp only[]
    refine Xac 26 rfl _ rfl ⟨_,_,rfl,LD2.o,?_⟩
    go_wp2_with fail
    refine CN.o.mono ?_
    rintro e w1 ⟨rfl,h1,f1⟩
    have BB:Hid (Bw w w1):=Hd (B1.o.trans (f1.below B1.o.size (zL _)))
    by_cases m0:m=0
    ·have q0:((m:Int) !=0)=false:=Xau (by omega)
     have MN:Hid (MId w1 w.heap.size (ids.take (j+1))):=Hd (by rw[TS.o];exact h1 m0)
     have ST2:Hid (Xcd zF ids=Xc9 zF 7 (ids.take (j+1)) (ids.drop (j+1))):=Hd (by rw[ha.o,ST.o,qN (by omega)])
     clear m0 h1 f1 CN
     go_wp2_with fail
     go_roundg (n-(j+1))
     case measure=>omega
     case rel=>exact⟨j+1,by omega,rfl,by go_num,ST2,MN,BB⟩
    ·have q0:((m:Int) !=0)=true:=Xam (by omega)
     have ST2:Hid (Xcd zF ids=m):=Hd (by rw[ha.o,ST.o,qP m0])
     clear m0 h1 f1 CN
     go_wp2_with fail
     go_ret
     exact⟨by rw[ST2.o];rfl,BB.o⟩
   ·obtain rfl:j=n:=by omega
    have ST2:Hid (Xcd zF ids=0):=Hd (by rw[ha.o,List.drop_of_length_le (by rw[HN.o];exact zL _)];rfl)
    go_wp2_with fail
    go_ret
    exact⟨by rw[ST2.o];rfl,hb.o⟩
end Go.Proofs.YtjolcnopipbkhaaGreatDoor
