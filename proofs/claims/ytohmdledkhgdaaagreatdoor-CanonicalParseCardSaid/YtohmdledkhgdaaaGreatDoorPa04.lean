/- utf8: Decode exactly, control characters, the iterator Runes, Printable. -/
import Derived.RangeFuncNested
import Derived.RangeFuncBound
import Derived.RangeFuncCalls
import Derived.RangeFuncLeaves
import Derived.RangeFuncBox
import Derived.Shelf.Abstract
import Derived.Shelf.RegionOpen
import Derived.OwnWalkIn
import Derived.TacticsInMore
import Derived.LoopNIn
import Derived.LoopIn
import Derived.Maps.AppendAt
import Derived.Test.YtohmdledkhgdaaaGreatDoorPa03
import Derived.Laws.BitsAllLaws
import Derived.Laws.Rows
import Derived.Laws.CopyOwn
namespace Go.Proofs.YtohmdledkhgdaaaGreatDoor
open Go.RowKit Go.Shelf
attribute [local go_sem] Oper.semAt_some
set_option linter.unusedVariables false
set_option maxRecDepth 100000
def Yiu (l:List Nat) (w:World) (e:Ending) (w':World):Prop:=
 ∃(r er:Int),e=.returned (.tuple #[.int .i32 r,.int .i64 (rn l:Int),.int .i64 er])∧(rn l≠0→er=0∧r=(cpt l:Int))∧(rn l=0→er≠0)∧Dr w w'
theorem Dr.below {w w':World} (h:Dr w w'):Below w.heap.size w w':=by
 obtain⟨q,rfl⟩:=h
 exact⟨rfl,rfl,rfl,Nat.le_refl _,fun b hb=>rfl⟩
theorem Dr.size {w w':World} (h:Dr w w'):w'.heap.size=w.heap.size:=by obtain⟨q,rfl⟩:=h;rfl
set_option maxHeartbeats 1000000 in
theorem Xvv (s:ByteArray) (w:World) (hs:s.size≤maxLen):
    Calls Tryz.prog 181 #[.string s] w (Yiu (bs s) w):=by
 have M:=Hd (Xjv s w hs)
 unfold maxLen at hs
 by_cases h0:s.size=0
 ·obtain rfl:=Xea h0
  clear h0 hs M
  go_enter Tryz.func181,Tryz.ntmps181
  go_wp2_with fail
  go_ret3
  exact⟨0,1,rfl,(fun h=>absurd rfl h),(fun _=>by decide),Dr.refl _⟩
 ·have n0:=Xdr h0
  go_enter Tryz.func181,Tryz.ntmps181
  go_wp2_with fail
  refine M.out.mono ?_
  rintro e w1 ⟨n,rfl,hn,hn4,hw,hd⟩
  rw[Xaa] at hn
  cases hb:Xb6 (bs s)
  ·have hr:=Xjl hb
   have HR:=Hd hr
   clear hw hr hb M
   by_cases z:n=0
   ·have z1:((n:Int)==0)=true:=Xa6 (by omega)
    go_wp2_with fail
    go_ret3
    exact⟨0,6,by rw[HR.out];rfl,(fun h=>absurd HR.out h),(fun _=>by decide),hd⟩
   ·have z1:((n:Int)==0)=false:=Xak (by omega)
    by_cases y:n=s.size
    ·have y1:((n:Int)==(s.size:Int))=true:=Xa6 (by omega)
     go_wp2_with fail
     go_ret3
     exact⟨0,23,by rw[HR.out];rfl,(fun h=>absurd HR.out h),(fun _=>by decide),hd⟩
    ·have y1:((n:Int)==(s.size:Int))=false:=Xak (by omega)
     go_wp2_with fail
     go_ret3
     exact⟨0,3,by rw[HR.out];rfl,(fun h=>absurd HR.out h),(fun _=>by decide),hd⟩
  ·obtain rfl:=hw hb
   have hp:=(Xfc hb).2
   have CP:=Hd (Yfw (bs s) (by omega))
   obtain⟨n,hn'⟩:∃n,n=rn (bs s):=⟨_,rfl⟩
   rw[←hn'] at hn hn4 hp CP⊢
   have SZ:(s.extract 0 n).size=n:=by rw[ByteArray.size_extract];omega
   have U:Hid (∀w,Calls Tryz.prog 223 #[.string (s.extract 0 n)] w fun e w'=>e=.returned (.int .i32 ((cpt (bs s):Nat):Int))∧w=w'):=Hd (fun w=>(Xvr (s.extract 0 n) w (by omega) (by omega)).mono fun e w' h=>⟨by rw[h.1,CP.out,Yf4,SZ],h.2⟩)
   have HN:=Hd hn'
   clear hw hb M hn' SZ CP
   go_wp2_with (go_at_call 223;refine(U.out _).mono ?_;rintro e w' ⟨rfl,rfl⟩)
   go_ret3
   exact⟨_,0,by rw[HN.out];rfl,(fun _=>⟨rfl,rfl⟩),(fun h=>by rw[HN.out] at hp;omega),hd⟩
theorem Xz8 (w:World) (n:Nat):Calls Tryz.prog 143 #[.int .i32 (n:Int)] w fun e w'=>e=.returned (.bool (Xs6 n))∧w=w':=by
 obtain⟨b,hb⟩:∃b,b=Xs6 n:=⟨_,rfl⟩
 rw[←hb]
 have HB:=Hd hb
 clear hb
 rcases(by omega:n<32∨(32≤n∧n<127)∨(127≤n∧n≤159)∨(n=8232)∨(n=8233)∨(159<n∧n≠8232∧n≠8233)) with h|⟨h,h2⟩|⟨h,h2⟩|rfl|rfl|⟨h,h2,h3⟩
 all_goals
  try have q1:((n:Int)==8232)=false:=Xak (by omega)
  try have q2:((n:Int)==8233)=false:=Xak (by omega)
  go_enter Tryz.func143,Tryz.ntmps143
  go_wp2_with fail
  go_ret
  exact⟨Xa3 (by rw[HB.out,Bool.eq_iff_iff];simp[Xs6];try omega),rfl⟩
def KeepB (B:Nat) (A C:World):Prop:=C.heap[B]?=A.heap[B]?
theorem KeepB.cell {B:Nat} {A C:World} (h:KeepB B A C):C.cell? ⟨B,0,none⟩=A.cell? ⟨B,0,none⟩:=by
 unfold World.cell?;simp only;rw[show C.heap[B]?=A.heap[B]? from h]
def rnV (x:Nat×Nat):Array Value:=#[.int .i64 (x.1:Int),.int .i32 (x.2:Int)]
theorem Xkd (w:World) (q:Nat):w.grownBy (w.drewN q) none:=⟨rfl,rfl,rfl,Nat.le_refl _,fun _ _ _=>rfl⟩
set_option maxHeartbeats 2000000 in
theorem Yei (n:Nat) (hn:1≤n) (l Bs B:Nat) (s:ByteArray) (hs:s.size≤maxLen) (J Jx:List (Nat×Nat)→World→Prop) (hJa:AbidesFrom B J)
    (hY:∀pre x W,J pre W→pre.length<s.size+1→YieldAt Fence.wide (n-1) Tryz.prog l (rnV x) W fun e W'=>
     (e=.returned (.bool true)∧J (pre++[x]) W'∧KeepB Bs W W')∨(e=.returned (.bool false)∧Jx (pre++[x]) W'))
    (W:World) (hBs:W.cell? ⟨Bs,0,none⟩=some (.string s)) (h0:J [] W):
    CallsIn Fence.wide n Tryz.prog 180 #[.func (.yield l) #[] #[],.pointer (some ⟨Bs,0,none⟩)] W fun e W'=>(∃v,e=.returned v)∧
     ((∃ys:List (Nat×Nat),ys=rns (bs s)∧J ys W')∨(∃pre:List (Nat×Nat),(∃q,pre++q=rns (bs s))∧Jx pre W')):=by
 unfold maxLen at hs
 refine callsIn_of_wp Tryz.func180 rfl trivial ?_ rfl
 simp only[Tryz.ntmps180,List.size_toArray,List.length_cons,List.length_nil,Nat.reduceAdd,Nat.reduceSub,Array.replicate_succ,Array.replicate_zero,List.push_toArray,List.append_toArray,List.nil_append,List.cons_append]
 gi_wp2
 gi_loopw [3] (fun i wr=>∃(k:Nat) (pre:List (Nat×Nat)),k≤s.size∧i=.int .i64 (k:Int)∧Hid (rns (bs s)=pre++rsN ((bs s).drop k).length k ((bs s).drop k))∧pre.length≤k∧wr.cell? ⟨Bs,0,none⟩=some (.string s)∧J pre wr)
  (fun i wr=>s.size-(intOf i).toNat)
 case atStart=>
  exact⟨0,[],by omega,rfl,rfl,Nat.zero_le _,hBs,h0⟩
 case round=>
  obtain⟨k,pre,hk,rfl,hpre,hpl,hc,hJ⟩:=hrel
  by_cases h1:k<s.size
  ·have hsz:(s.extract k s.size).size=s.size-k:=by rw[ByteArray.size_extract];omega
   have D:=Hd (Xvv (s.extract k s.size) wr (by rw[hsz];unfold maxLen;omega))
   have hl:=(Xpy ((bs s).drop k)).1
   rw[List.length_drop,Xaa] at hl
   clear hsz
   gi_wp2_with fail
   refine⟨trivial,?_⟩
   refine(callsIn_wide.2 D.out).mono ?_
   rintro e w1 ⟨r,er,rfl,h2,h3,hd1⟩
   rw[Xnb] at h2 h3⊢
   have J1:J pre w1:=by obtain⟨q,rfl⟩:=hd1;exact hJa _ _ _ _ hJ (Xkd _ _) (fun r e=>by cases e)
   have C1:w1.cell? ⟨Bs,0,none⟩=some (.string s):=by obtain⟨q,rfl⟩:=hd1;exact hc
   obtain⟨m,hm⟩:∃m,m=rn ((bs s).drop k):=⟨_,rfl⟩
   obtain⟨c,hcp⟩:∃c,c=cpt ((bs s).drop k):=⟨_,rfl⟩
   rw[←hm] at hl h2 h3⊢
   rw[←hcp] at h2
   clear hJ hc D hd1
   by_cases z:m=0
   ·have q:=h3 z
    have q1:(er !=0)=true:=Xam q
    have ST:Hid (rns (bs s)=pre):=Hd (by rw[hpre.out,Xmm _ _ _ (by rw[←hm];exact z),List.append_nil])
    clear hm hcp h2 h3
    gi_wp2
    refine⟨fun _ h=>(by cases h),?_⟩
    gi_wp2
    refine bodyPost_ret (results_none rfl _ _ _) rfl ?_
    exact⟨⟨_,rfl⟩,.inl ⟨pre,ST.out.symm,J1⟩⟩
   ·obtain⟨rfl,rfl⟩:=h2 z
    have ST:Hid (rns (bs s)=(pre++[(k,c)])++rsN ((bs s).drop (k+m)).length (k+m) ((bs s).drop (k+m))):=Hd (by
     rw[hpre.out,Xmn _ _ _ (by rw[←hm];exact z) (Nat.le_refl _),←hm,←hcp,List.drop_drop];simp)
    clear hm hcp h2 h3
    obtain⟨fn,tmps,assign,body,hy,hR⟩:=hY pre (k,c) w1 J1 (by omega)
    unfold rnV at hy
    dsimp only at hy
    gi_wp2
    refine hR.mono ?_
    rintro e W3 (⟨rfl,hJ3,hk3⟩|⟨rfl,hJx3⟩)
    ·have hc3:W3.cell? ⟨Bs,0,none⟩=some (.string s):=hk3.cell.trans C1
     gi_wp2
     go_roundw
     case rel=>exact⟨k+m,pre++[(k,c)],by omega,by go_num,ST,by simp;omega,hc3,hJ3⟩
     case measure=>simp[intOf];omega
    ·gi_wp2
     refine bodyPost_ret (results_none rfl _ _ _) rfl ?_
     exact⟨⟨_,rfl⟩,.inr ⟨_,⟨_,ST.out.symm⟩,hJx3⟩⟩
  ·obtain rfl:k=s.size:=by omega
   have ST:Hid (rns (bs s)=pre):=Hd (by rw[hpre.out,List.drop_of_length_le (by rw[Xaa];exact Nat.le_refl _)];simp[rsN])
   gi_wp2
   go_end0
   exact⟨⟨_,rfl⟩,.inl ⟨pre,ST.out.symm,hJ⟩⟩
end Go.Proofs.YtohmdledkhgdaaaGreatDoor
/- The checker of a content: an error in a box. -/
namespace Go.Proofs.YtohmdledkhgdaaaGreatDoor
open Go.RowKit Go.Maps
set_option linter.unusedVariables false
set_option maxRecDepth 100000
def Ck (w:World) (b n:Nat):Prop:=w.heap[b]?=some (.cells #[.int .i64 (n:Int)] 96 (0,0))
structure Fr1 (b:Nat) (w w':World):Prop where
 os:w'.os=w.os
 tape:w'.tape=w.tape
 output:w'.output=w.output
 size:w.heap.size≤w'.heap.size
 other:∀k,k<w.heap.size→k≠b→w'.heap[k]?=w.heap[k]?
theorem Fr1.refl (b:Nat) (w:World):Fr1 b w w:=⟨rfl,rfl,rfl,Nat.le_refl _,fun _ _ _=>rfl⟩
theorem Fr1.of_below {b:Nat} {w w':World} (h:Below w.heap.size w w'):Fr1 b w w':=⟨h.os,h.tape,h.output,h.size,fun k hk _=>h.block k hk⟩
theorem Fr1.trans {b:Nat} {u v w:World} (h:Fr1 b u v) (h':Fr1 b v w):Fr1 b u w:=
 ⟨h'.os.trans h.os,h'.tape.trans h.tape,h'.output.trans h.output,Nat.le_trans h.size h'.size,fun k hk hne=>(h'.other k (Nat.lt_of_lt_of_le hk h.size) hne).trans (h.other k hk hne)⟩
theorem Fr1.below {b B:Nat} {w w':World} (h:Fr1 b w w') (hB:B≤w.heap.size) (hb:B≤b):Below B w w':=
 ⟨h.os,h.tape,h.output,h.size,fun k hk=>h.other k (Nat.lt_of_lt_of_le hk hB) (by omega)⟩
theorem Fr1.set {b n:Nat} {w:World} (h:Ck w b n) (u:Value):Fr1 b w (w.setCell ⟨b,0,none⟩ u):=
 ⟨rfl,rfl,rfl,by simp[World.setCell],fun k _ hne=>Below.heap_setCell _ _ _ _ hne⟩
theorem Ck.lt {w:World} {b n:Nat} (h:Ck w b n):b<w.heap.size:=lt_of_block h
theorem Ck.below {w w':World} {b n:Nat} (h:Ck w b n) (hb:Below w.heap.size w w'):Ck w' b n:=(hb.block b h.lt).trans h
theorem Ck.cell {w:World} {b n:Nat} (h:Ck w b n):w.cell? ⟨b,0,none⟩=some (.int .i64 (n:Int)):=cell_of_row w b 0 _ _ _ h
theorem Ck.free {w:World} {b n:Nat} (h:Ck w b n):w.frozen? ⟨b,0,none⟩=false:=by unfold Ck at h;simp[World.frozen?,h]
theorem Ck.set {w:World} {b n:Nat} (h:Ck w b n) (m:Nat):Ck (w.setCell ⟨b,0,none⟩ (.int .i64 (m:Int))) b m:=
 Xd0 h 0 _
def Xb5 (w:World) (b n:Nat) (e:Ending) (w':World):Prop:=(∃v,e=.returned v)∧Ck w' b n∧Fr1 b w w'
theorem Xbn (w:World) (b n:Nat) (h:Ck w b n) (bad:Bool) (e:Nat):
    Calls Tryz.prog 59 #[.pointer (some ⟨b,0,none⟩),.bool bad,.int .i64 (e:Int)] w (Xb5 w b (fe n (eIf bad e))):=by
 have hc:=h.cell
 have hf:=h.free
 have H:=Hd h
 clear h
 by_cases h0:n=0
 ·subst h0
  cases bad
  ·go_enter Tryz.func59,Tryz.ntmps59
   go_wp2_with fail
   go_end0
   exact⟨⟨_,rfl⟩,H.out,Fr1.refl _ _⟩
  ·go_enter Tryz.func59,Tryz.ntmps59
   go_wp2_with fail
   go_end0
   exact⟨⟨_,rfl⟩,H.out.set e,Fr1.set H.out _⟩
 ·have hz:((n:Int)==0)=false:=Xak (by omega)
  have HE:Hid (fe n (eIf bad e)=n):=Hd (by unfold fe;rw[if_pos h0])
  clear h0
  go_enter Tryz.func59,Tryz.ntmps59
  go_wp2_with fail
  go_end0
  exact⟨⟨_,rfl⟩,by rw[HE.out];exact H.out,Fr1.refl _ _⟩
theorem Xdk (w:World) (b n:Nat) (h:Ck w b n) (e:Nat):
    Calls Tryz.prog 51 #[.pointer (some ⟨b,0,none⟩),.int .i64 (e:Int)] w (Xb5 w b (fe n e)):=by
 have W:=Hd (Xbn w b n h true e)
 clear h
 go_enter Tryz.func51,Tryz.ntmps51
 go_wp2_with fail
 refine W.out.mono ?_
 rintro e w' ⟨⟨v,rfl⟩,h1,h2⟩
 have H1:=Hd h1;have H2:=Hd h2
 clear h1 h2 W
 go_wp2_with fail
 go_end0
 exact⟨⟨_,rfl⟩,H1.out,H2.out⟩
theorem Yg7:∀m:Nat,m<32→1≤m→bits .and .u64 (IntKind.u64.wrap (-(m:Int))) 31=((32-m:Nat):Int):=by decide+kernel
theorem Yg6:∀m:Nat,m<32→1≤m→IntKind.u64.wrap (32-((32-m:Nat):Int))=(m:Int):=by decide+kernel
theorem Xbq {x m:Nat} (hx:x<4294967296):rot x m<4294967296:=by
 unfold rot Xnw
 exact Nat.or_lt_two_pow (n:=32) (by omega) (Nat.lt_of_le_of_lt (Nat.div_le_self _ _) (by omega))
theorem Yam (w:World) (x m:Nat) (hx:x<4294967296) (hm:1≤m) (hm2:m<32):Calls Tryz.prog 204 #[.int .u32 (x:Int),.int .i64 (-(m:Int))] w fun e w'=>e=.returned (.int .u32 ((rot x m:Nat):Int))∧w=w':=by
 have e:=Yg7 m hm2 hm
 have e2:=Yg6 m hm2 hm
 obtain⟨r,hr⟩:∃r,r=32-m:=⟨_,rfl⟩
 rw[←hr] at e e2
 have hr2:r≤31:=by omega
 have HR:=Hd hr
 clear hr
 go_enter Tryz.func204,Tryz.ntmps204
 go_wp2_with fail
 go_ret
 refine⟨?_,rfl⟩
 have e1:((x:Int)*2^r%4294967296)=((x*2^r%4294967296:Nat):Int):=by rw[Int.natCast_emod,Int.natCast_mul,Int.natCast_pow];rfl
 have e3:((x:Int)/2^m)=((x/2^m:Nat):Int):=by rw[Int.natCast_ediv,Int.natCast_pow];rfl
 rw[e1,e3,u32_or_nat _ _ (by omega) (Nat.lt_of_le_of_lt (Nat.div_le_self _ _) hx),HR.out]
 rfl
theorem Xhl (w:World) (x:Nat) (hx:x<4294967296) (m:Nat) (hm:1≤m) (hm2:m<32) (k:Int) (hk:k=(m:Int)):Calls Tryz.prog 161 #[.int .u32 (x:Int),.int .i64 k] w fun e w'=>e=.returned (.int .u32 ((rot x m:Nat):Int))∧w=w':=by
 subst hk
 have R:=Hd (Yam w x m hx hm hm2)
 have hm3:(m:Int)<32:=by omega
 go_enter Tryz.func161,Tryz.ntmps161
 go_wp2_with fail
 refine R.out.mono ?_
 rintro e w' ⟨rfl,rfl⟩
 clear R
 go_wp2_with fail
 go_ret
 exact⟨rfl,rfl⟩
def wC (v:W8):Array Value:=#[.int .u32 (v.a:Int),.int .u32 (v.b:Int),.int .u32 (v.c:Int),.int .u32 (v.d:Int),.int .u32 (v.e:Int),.int .u32 (v.f:Int),.int .u32 (v.g:Int),.int .u32 (v.i:Int)]
def wZ:Array Value:=#[.int .u32 0,.int .u32 0,.int .u32 0,.int .u32 0,.int .u32 0,.int .u32 0,.int .u32 0,.int .u32 0]
structure W8.Ok (v:W8):Prop where
 a:v.a<4294967296
 b:v.b<4294967296
 c:v.c<4294967296
 d:v.d<4294967296
 e:v.e<4294967296
 f:v.f<4294967296
 g:v.g<4294967296
 i:v.i<4294967296
theorem Xc5:(Tryz.prog.info? 176).map (·.size)=some 8:=by kernel_rfl
theorem Ybr (w:World):Calls Tryz.prog 121 #[] w fun e w'=>e=.returned (.agg (wC sh0))∧Below w.heap.size w w':=by
 go_enter Tryz.func121,Tryz.ntmps121
 go_wp2_with fail
 exact bodyPost_ret (v:=.agg (wC sh0)) (by simp[results,Tryz.results121,go_sem];rfl) rfl ⟨rfl,(Below.refl _ _).alloc (Nat.le_refl _) _⟩
theorem Yj7 {w:World} {b T:Nat} (h:w.heap[b]?=some (.cells wZ T (0,0))) (u0 u1 u2 u3 u4 u5 u6 u7:Value):((((((((w.setCell ⟨b,0,none⟩ u0).setCell ⟨b,1,none⟩ u1).setCell ⟨b,2,none⟩ u2).setCell ⟨b,3,none⟩ u3).setCell ⟨b,4,none⟩ u4).setCell ⟨b,5,none⟩ u5).setCell ⟨b,6,none⟩ u6).setCell ⟨b,7,none⟩ u7).heap[b]?=some (.cells #[u0,u1,u2,u3,u4,u5,u6,u7] T (0,0)):=by
 have h0:=Xd0 h 0 u0
 have h1:=Xd0 h0 1 u1
 have h2:=Xd0 h1 2 u2
 have h3:=Xd0 h2 3 u3
 have h4:=Xd0 h3 4 u4
 have h5:=Xd0 h4 5 u5
 have h6:=Xd0 h5 6 u6
 have h7:=Xd0 h6 7 u7
 simpa [wZ] using h7
theorem Xl5 {B b:Nat} {w0 w:World} (h:Below B w0 w) (hb:B≤b) (u0 u1 u2 u3 u4 u5 u6 u7:Value):Below B w0 ((((((((w.setCell ⟨b,0,none⟩ u0).setCell ⟨b,1,none⟩ u1).setCell ⟨b,2,none⟩ u2).setCell ⟨b,3,none⟩ u3).setCell ⟨b,4,none⟩ u4).setCell ⟨b,5,none⟩ u5).setCell ⟨b,6,none⟩ u6).setCell ⟨b,7,none⟩ u7):=((((((((h.setCell hb _).setCell hb _).setCell hb _).setCell hb _).setCell hb _).setCell hb _).setCell hb _).setCell hb _)
theorem Yeb (x:Nat) (hx:x<4294967296):bits .xor .u32 (if IntKind.u32.signed=true then -1 else IntKind.u32.max) (x:Int)=((Xua x:Nat):Int):=by
 show IntKind.u32.wrap ((BitVec.ofInt 32 4294967295^^^BitVec.ofInt 32 (x:Int)).toNat:Int)=_
 rw[show BitVec.ofInt 32 4294967295=BitVec.allOnes 32 by decide,BitVec.allOnes_xor,BitVec.toNat_not,ofInt_u32 x hx,IntKind.wrap_u32']
 unfold Xua
 omega
theorem Xc9 (a b:Nat):((Xdf a b:Nat):Int)=((a:Int)+(b:Int))%4294967296:=by unfold Xdf;omega
theorem Xkv {a b:Nat} (h:a<4294967296):a&&&b<4294967296:=Nat.lt_of_le_of_lt Nat.and_le_left h
theorem Xi6 {a b:Nat} (h:a<4294967296) (h2:b<4294967296):a^^^b<4294967296:=Nat.xor_lt_two_pow (n:=32) h h2
theorem not_lt (a:Nat):Xua a<4294967296:=by unfold Xua;omega
theorem Xe0 (a b:Nat):Xdf a b<4294967296:=Nat.mod_lt _ (by omega)
theorem Yg5 {v:W8} (hv:v.Ok) (k t:Nat):(rnd v k t).Ok:=⟨Xe0 _ _,hv.a,hv.b,hv.c,Xe0 _ _,hv.e,hv.f,hv.g⟩
theorem Yep (x y:W8):(Xhm x y).Ok:=⟨Xe0 _ _,Xe0 _ _,Xe0 _ _,Xe0 _ _,Xe0 _ _,Xe0 _ _,Xe0 _ _,Xe0 _ _⟩
theorem Yc9:sh0.Ok:=⟨by decide,by decide,by decide,by decide,by decide,by decide,by decide,by decide⟩
theorem Ykd {v:W8} (hv:v.Ok) (k t s1:Nat) (hs:s1=rot v.e 6^^^rot v.e 11^^^rot v.e 25):
    (((v.i:Int)+(s1:Int)+bits .xor .u32 (bits .and .u32 (v.e:Int) (v.f:Int)) (bits .and .u32 (bits .xor .u32 (if IntKind.u32.signed=true then -1 else IntKind.u32.max) (v.e:Int)) (v.g:Int))+(k:Int))%4294967296+(t:Int))%4294967296=((Yej v k t:Nat):Int):=by
 unfold Yej
 rw[Xc9,Xc9,Xc9,Xc9,←hs,Yeb _ hv.e,u32_and_nat _ _ hv.e hv.f,u32_and_nat _ _ (not_lt _) hv.g,u32_xor_nat _ _ (Xkv hv.e) (Xkv (not_lt _))]
 generalize (((v.e&&&v.f^^^Xua v.e&&&v.g:Nat)):Int)=X
 omega
theorem Ykc {v:W8} (hv:v.Ok) (s0:Nat) (hs:s0=rot v.a 2^^^rot v.a 13^^^rot v.a 22):
    ((s0:Int)+bits .xor .u32 (bits .xor .u32 (bits .and .u32 (v.a:Int) (v.b:Int)) (bits .and .u32 (v.a:Int) (v.c:Int))) (bits .and .u32 (v.b:Int) (v.c:Int)))%4294967296=((Ygq v:Nat):Int):=by
 unfold Ygq
 rw[Xc9,←hs,u32_and_nat _ _ hv.a hv.b,u32_and_nat _ _ hv.a hv.c,u32_and_nat _ _ hv.b hv.c,u32_xor_nat _ _ (Xkv hv.a) (Xkv hv.a),u32_xor_nat _ _ (Xi6 (Xkv hv.a) (Xkv hv.a)) (Xkv hv.b)]
theorem Xn3 (w:World) (v:W8) (k t:Nat) (hv:v.Ok) (hk:k<4294967296) (ht:t<4294967296):
    Calls Tryz.prog 162 #[.agg (wC v),.int .u32 (k:Int),.int .u32 (t:Int)] w fun e w'=>e=.returned (.agg (wC (rnd v k t)))∧Below w.heap.size w w':=by
 have ra:=fun(m:Nat) (hm:1≤m) (hm2:m<32) (k:Int) (hk:k=(m:Int)) (w:World)=>(Xhl w v.a hv.a m hm hm2 k hk).mono (fun _ _ h=>(⟨h.1,h.2.symm⟩:_∧_))
 have re:=fun(m:Nat) (hm:1≤m) (hm2:m<32) (k:Int) (hk:k=(m:Int)) (w:World)=>(Xhl w v.e hv.e m hm hm2 k hk).mono (fun _ _ h=>(⟨h.1,h.2.symm⟩:_∧_))
 have R1:=Hd (ra 2 (by decide) (by decide) 2 rfl)
 have R2:=Hd (ra 13 (by decide) (by decide) 13 rfl)
 have R3:=Hd (ra 22 (by decide) (by decide) 22 rfl)
 have R4:=Hd (re 6 (by decide) (by decide) 6 rfl)
 have R5:=Hd (re 11 (by decide) (by decide) 11 rfl)
 have R6:=Hd (re 25 (by decide) (by decide) 25 rfl)
 have HV:=Hd hv
 obtain⟨s0,hs0⟩:∃s,s=rot v.a 2^^^rot v.a 13^^^rot v.a 22:=⟨_,rfl⟩
 obtain⟨s1,hs1⟩:∃s,s=rot v.e 6^^^rot v.e 11^^^rot v.e 25:=⟨_,rfl⟩
 have l0:s0<4294967296:=by rw[hs0];exact Nat.xor_lt_two_pow (n:=32) (Nat.xor_lt_two_pow (n:=32) (Xbq hv.a) (Xbq hv.a)) (Xbq hv.a)
 have l1:s1<4294967296:=by rw[hs1];exact Nat.xor_lt_two_pow (n:=32) (Nat.xor_lt_two_pow (n:=32) (Xbq hv.e) (Xbq hv.e)) (Xbq hv.e)
 have X0:Hid (bits .xor .u32 (bits .xor .u32 ((rot v.a 2:Nat):Int) ((rot v.a 13:Nat):Int)) ((rot v.a 22:Nat):Int)=(s0:Int)):=Hd (by
  rw[u32_xor_nat _ _ (Xbq hv.a) (Xbq hv.a),u32_xor_nat _ _ (Nat.xor_lt_two_pow (n:=32) (Xbq hv.a) (Xbq hv.a)) (Xbq hv.a),hs0])
 have X1:Hid (bits .xor .u32 (bits .xor .u32 ((rot v.e 6:Nat):Int) ((rot v.e 11:Nat):Int)) ((rot v.e 25:Nat):Int)=(s1:Int)):=Hd (by
  rw[u32_xor_nat _ _ (Xbq hv.e) (Xbq hv.e),u32_xor_nat _ _ (Nat.xor_lt_two_pow (n:=32) (Xbq hv.e) (Xbq hv.e)) (Xbq hv.e),hs1])
 have HS0:=Hd hs0
 have HS1:=Hd hs1
 clear ra re hv hs0 hs1
 unfold wC
 go_enter Tryz.func162,Tryz.ntmps162
 go_wp2_with fail
 go_quiet ((go_at_call 161;first|with_reducible exact Calls.quiet_of_same (R1.out _)|with_reducible exact Calls.quiet_of_same (R2.out _)|with_reducible exact Calls.quiet_of_same (R3.out _)))
 rw[X0.out]
 clear R1 R2 R3 X0
 obtain⟨w0,hw0⟩:∃w0,w0=((w.alloc (.cells (wC v) 176)).alloc (.cells wZ 176)).drewN nq:=⟨_,rfl⟩
 have b0:w0.heap[w.heap.size]?=some (.cells (wC v) 176 (0,0)):=by
  rw[hw0];exact(((Below.refl _ (w.alloc (.cells (wC v) 176))).alloc (Nat.le_refl _) (.cells wZ 176)).block w.heap.size (by simp)).trans (heap_alloc_new w _)
 have b1:w0.heap[w.heap.size+1]?=some (.cells wZ 176 (0,0)):=by
  rw[hw0];have:=heap_alloc_new (w.alloc (.cells (wC v) 176)) (.cells wZ 176);rw[World.size_alloc] at this;exact this
 have BW:Hid (Below w.heap.size w w0):=Hd (by
  rw[hw0];exact(((Below.refl _ _).alloc (Nat.le_refl _) _).alloc (by simp) _).trans ((Dr.below ⟨nq,rfl⟩).mono (by simp;omega)))
 have hw0':=hw0
 unfold wC wZ at hw0'
 rw[←hw0']
 have c0:w0.cell? ⟨w.heap.size,0,none⟩=some (.int .u32 (v.a:Int)):=cell_of_row w0 _ 0 _ _ _ b0
 have c1:w0.cell? ⟨w.heap.size,1,none⟩=some (.int .u32 (v.b:Int)):=cell_of_row w0 _ 1 _ _ _ b0
 have c2:w0.cell? ⟨w.heap.size,2,none⟩=some (.int .u32 (v.c:Int)):=cell_of_row w0 _ 2 _ _ _ b0
 have c3:w0.cell? ⟨w.heap.size,3,none⟩=some (.int .u32 (v.d:Int)):=cell_of_row w0 _ 3 _ _ _ b0
 have c4:w0.cell? ⟨w.heap.size,4,none⟩=some (.int .u32 (v.e:Int)):=cell_of_row w0 _ 4 _ _ _ b0
 have c5:w0.cell? ⟨w.heap.size,5,none⟩=some (.int .u32 (v.f:Int)):=cell_of_row w0 _ 5 _ _ _ b0
 have c6:w0.cell? ⟨w.heap.size,6,none⟩=some (.int .u32 (v.g:Int)):=cell_of_row w0 _ 6 _ _ _ b0
 have c7:w0.cell? ⟨w.heap.size,7,none⟩=some (.int .u32 (v.i:Int)):=cell_of_row w0 _ 7 _ _ _ b0
 have d0:w0.cell? ⟨w.heap.size+1,0,none⟩=some (.int .u32 0):=cell_of_row w0 _ 0 _ _ _ b1
 have e0:w0.frozen? ⟨w.heap.size+1,0,none⟩=false:=Xd3 b1 0
 have d1:w0.cell? ⟨w.heap.size+1,1,none⟩=some (.int .u32 0):=cell_of_row w0 _ 1 _ _ _ b1
 have e1:w0.frozen? ⟨w.heap.size+1,1,none⟩=false:=Xd3 b1 1
 have d2:w0.cell? ⟨w.heap.size+1,2,none⟩=some (.int .u32 0):=cell_of_row w0 _ 2 _ _ _ b1
 have e2:w0.frozen? ⟨w.heap.size+1,2,none⟩=false:=Xd3 b1 2
 have d3:w0.cell? ⟨w.heap.size+1,3,none⟩=some (.int .u32 0):=cell_of_row w0 _ 3 _ _ _ b1
 have e3:w0.frozen? ⟨w.heap.size+1,3,none⟩=false:=Xd3 b1 3
 have d4:w0.cell? ⟨w.heap.size+1,4,none⟩=some (.int .u32 0):=cell_of_row w0 _ 4 _ _ _ b1
 have e4:w0.frozen? ⟨w.heap.size+1,4,none⟩=false:=Xd3 b1 4
 have d5:w0.cell? ⟨w.heap.size+1,5,none⟩=some (.int .u32 0):=cell_of_row w0 _ 5 _ _ _ b1
 have e5:w0.frozen? ⟨w.heap.size+1,5,none⟩=false:=Xd3 b1 5
 have d6:w0.cell? ⟨w.heap.size+1,6,none⟩=some (.int .u32 0):=cell_of_row w0 _ 6 _ _ _ b1
 have e6:w0.frozen? ⟨w.heap.size+1,6,none⟩=false:=Xd3 b1 6
 have d7:w0.cell? ⟨w.heap.size+1,7,none⟩=some (.int .u32 0):=cell_of_row w0 _ 7 _ _ _ b1
 have e7:w0.frozen? ⟨w.heap.size+1,7,none⟩=false:=Xd3 b1 7
 have B1:Hid (w0.heap[w.heap.size+1]?=some (.cells wZ 176 (0,0))):=Hd b1
 clear hw0 hw0' b0 b1
 go_wp2_with fail
 go_quiet ((go_at_call 161;first|with_reducible exact Calls.quiet_of_same (R4.out _)|with_reducible exact Calls.quiet_of_same (R5.out _)|with_reducible exact Calls.quiet_of_same (R6.out _)))
 rw[X1.out]
 clear R4 R5 R6 X1
 have T:=Hd (Ykd HV.out k t s1 HS1.out)
 have U:=Hd (Ykc HV.out s0 HS0.out)
 have RES:Hid (#[Value.int .u32 (((Yej v k t:Nat):Int)+((Ygq v:Nat):Int)),Value.int .u32 (v.a:Int)]=#[Value.int .u32 (((Yej v k t:Nat):Int)+((Ygq v:Nat):Int)),Value.int .u32 (v.a:Int)]):=Hd rfl
 go_upto_region 5 with fail
 rw[T.out,U.out]
 obtain⟨tt,htt⟩:∃x,x=Yej v k t:=⟨_,rfl⟩
 obtain⟨uu,huu⟩:∃x,x=Ygq v:=⟨_,rfl⟩
 have R:Hid (wC (rnd v k t)=#[.int .u32 (((tt:Int)+(uu:Int))%4294967296),.int .u32 (v.a:Int),.int .u32 (v.b:Int),.int .u32 (v.c:Int),.int .u32 (((v.d:Int)+(tt:Int))%4294967296),.int .u32 (v.e:Int),.int .u32 (v.f:Int),.int .u32 (v.g:Int)]):=Hd (by unfold wC rnd;simp only[Xc9];rw[htt,huu])
 rw[←htt,←huu]
 clear T U RES htt huu HS0 HS1
 go_wp2_with fail
 exact bodyPost_ret (results_cell_row Tryz.results162 _ _ (w.heap.size+1) _ _ _ _ rfl (Yj7 (w:=w0.drewN nq) B1.out _ _ _ _ _ _ _ _) Tryz.underlying176 rfl Xc5) rfl ⟨(by have:=R.out;unfold wC at this;rw[this]),Xl5 (BW.out.trans ((Dr.below ⟨nq,rfl⟩).mono BW.out.size)) (Nat.le_succ _) _ _ _ _ _ _ _ _⟩
def wA (ws:List Nat):Array Value:=(ws.map fun x=>Value.int .u32 ((x:Nat):Int)).toArray
theorem Xhh (ws:List Nat):(wA ws).size=ws.length:=by simp[wA]
theorem Ygt (ws:List Nat) (q x:Nat):(wA ws).setIfInBounds q (.int .u32 ((x:Nat):Int))=wA (ws.set q x):=by simp[wA,List.map_set]
theorem Ygu (ws:List Nat):(wA ws).all (·.oneCell')=true:=by
 rw[Array.all_eq_true']
 intro x hx
 unfold wA at hx
 rw[List.mem_toArray,List.mem_map] at hx
 obtain⟨y,_,rfl⟩:=hx
 rfl
structure L16 (ws:List Nat):Prop where
 len:ws.length=16
 lt:∀x∈ws,x<4294967296
theorem L16.at {ws:List Nat} (h:L16 ws) (q:Nat):ws.getD q 0<4294967296:=by
 by_cases hq:q<ws.length
 ·rw[List.getD_eq_getElem?_getD,List.getElem?_eq_getElem hq,Option.getD_some];exact h.lt _ (List.getElem_mem hq)
 ·rw[List.getD_eq_getElem?_getD,List.getElem?_eq_none (by omega)];decide
theorem L16.set {ws:List Nat} (h:L16 ws) (q:Nat) {x:Nat} (hx:x<4294967296):L16 (ws.set q x):=⟨by simp[h.len],fun y hy=>by
 rcases List.mem_or_eq_of_mem_set hy with hy|rfl
 ·exact h.lt _ hy
 ·exact hx⟩
theorem Yjf:L16 (List.replicate 16 0):=⟨by simp,fun x hx=>by rw[List.mem_replicate] at hx;omega⟩
def WB (w:World) (b:Nat) (T:TypeId) (ws:List Nat):Prop:=w.heap[b]?=some (.cells (wA ws) T (0,0))
theorem WB.lt {w:World} {b:Nat} {T:TypeId} {ws:List Nat} (h:WB w b T ws):b<w.heap.size:=lt_of_block h
theorem WB.cell {w:World} {b:Nat} {T:TypeId} {ws:List Nat} (h:WB w b T ws) {q:Nat} (hq:q<ws.length):w.cell? ⟨b,q,none⟩=some (.int .u32 ((ws.getD q 0:Nat):Int)):=by
 rw[cell_of_row w b q _ _ _ h]
 simp[wA,List.getD,hq]
theorem WB.set {w:World} {b:Nat} {T:TypeId} {ws:List Nat} (h:WB w b T ws) (q x:Nat):WB (w.setCell ⟨b,q,none⟩ (.int .u32 ((x:Nat):Int))) b T (ws.set q x):=by
 have:=Xd0 h q (.int .u32 ((x:Nat):Int))
 rw[Ygt] at this
 exact this
theorem WB.below {w w':World} {b:Nat} {T:TypeId} {ws:List Nat} (h:WB w b T ws) (hb:Below w.heap.size w w'):WB w' b T ws:=(hb.block b h.lt).trans h
theorem Xmh:(Tryz.prog.info? 182).map (·.size)=some 16:=by kernel_rfl
theorem Xr0:(Tryz.prog.info? 177).map (·.size)=some 64:=by kernel_rfl
theorem WB.load {w:World} {b:Nat} {ws:List Nat} (h:WB w b 182 ws) (hl:L16 ws):(loadVar 182 ⟨b,0,none⟩).run Tryz.prog w=.ok (.agg (wA ws)) w:=
 run_loadVar_row w b _ 182 _ _ _ h Tryz.underlying182 rfl (by rw[Xhh,hl.len];exact Xmh)
theorem Yfh {l:List Nat} (hl:l.length=64) (j:Nat) (hj:j<64) (c:Nat) (hc:c=l.getD j 0) (w:World):(Instr.index 177 (.agg (idA l)) (.int .i64 (j:Int))).run Tryz.prog w=.ok (.int .u8 (c:Int)) w:=by
 have hi:(0:Int)≤(j:Int)∧(j:Int)<64:=by omega
 have hjl:j<l.length:=by omega
 have e:(idA l)[j]?=some (U c):=by
  rw[hc];unfold idA
  simp[List.getD,hjl]
 simp[Instr.index,run_underlying Tryz.underlying177,asIntOf,hi,go_sem]
 rw[if_pos hj,e]
 rfl
theorem Xxh {b ws:List Nat} (hb:∀x∈b,x<256) (h:L16 ws) (i:Nat):L16 (Xsq b ws i):=by
 refine h.set _ ?_
 have h1:Xnw (ws.getD (i/4) 0) 8<2^32:=Nat.mod_lt _ (by decide)
 have h2:b.getD i 0<2^32:=by
  by_cases hq:i<b.length
  ·rw[List.getD_eq_getElem?_getD,List.getElem?_eq_getElem hq,Option.getD_some];have:=hb _ (List.getElem_mem hq);omega
  ·rw[List.getD_eq_getElem?_getD,List.getElem?_eq_none (by omega)];decide
 exact Nat.or_lt_two_pow h1 h2
theorem Xxi {b:List Nat} (hb:∀x∈b,x<256) (n:Nat):L16 (Xzt b n):=by
 induction n with
 |zero=>exact Yjf
 |succ n ih=>rw[Xol];exact Xxh hb ih n
structure B64 (l:List Nat):Prop where
 len:l.length=64
 lt:∀x∈l,x<256
set_option maxHeartbeats 1000000 in
theorem Ybj (w:World) {l:List Nat} (hl:B64 l):
    Calls Tryz.prog 123 #[.agg (idA l)] w fun e w'=>e=.returned (.agg (wA (ldF l)))∧Below w.heap.size w w':=by
 obtain⟨cs,hcs⟩:∃cs,cs=idA l:=⟨_,rfl⟩
 obtain⟨p,hp⟩:∃p,p=w.heap.size:=⟨_,rfl⟩
 have HL:=Hd hl;have HP:=Hd hp;have HCS:=Hd hcs
 obtain⟨zs,hzs⟩:∃zs,zs=wA (List.replicate 16 0):=⟨_,rfl⟩
 have Z0:Hid (zs=#[.int .u32 0,.int .u32 0,.int .u32 0,.int .u32 0,.int .u32 0,.int .u32 0,.int .u32 0,.int .u32 0,.int .u32 0,.int .u32 0,.int .u32 0,.int .u32 0,.int .u32 0,.int .u32 0,.int .u32 0,.int .u32 0]):=Hd (by rw[hzs];rfl)
 obtain⟨w3,hw3⟩:∃w3,w3=(((w.alloc (.cells cs 177)).alloc (.cells zs 182)).alloc (.cells zs 182)):=⟨_,rfl⟩
 have B3:Hid (Below w.heap.size w w3):=Hd (by rw[hw3];exact(((Below.refl _ _).alloc (Nat.le_refl _) _).alloc (by simp) _).alloc (by simp;omega) _)
 have b0:w3.heap[w.heap.size]?=some (.cells cs 177 (0,0)):=by
  rw[hw3];exact Xaf (Xaf (heap_alloc_last w _))
 have b1:WB w3 (w.heap.size+1) 182 (List.replicate 16 0):=by
  unfold WB;rw[hw3,←hzs];have:=heap_alloc_last (w.alloc (.cells cs 177)) (.cells zs 182);rw[World.size_alloc] at this;exact Xaf this
 have b2:WB w3 (w.heap.size+2) 182 (List.replicate 16 0):=by
  unfold WB;rw[hw3,←hzs];have:=heap_alloc_last ((w.alloc (.cells cs 177)).alloc (.cells zs 182)) (.cells zs 182);rw[World.size_alloc,World.size_alloc] at this;exact this
 have W3:=Hd hw3
 have LD:=Hd (run_loadVar_row (P:=Tryz.prog) w3 w.heap.size _ 177 cs _ _ b0 Tryz.underlying177 rfl (by rw[hcs,Xag,hl.len];exact Xr0))
 have EX:=Hd (fun j hj c hc w=>Yfh hl.len j hj c hc w)
 rw[←hcs]
 clear hl hcs hp hw3 b0 hzs
 go_enter Tryz.func123,Tryz.ntmps123
 go_upto_region 2 with fail
 have W3':=W3.out
 rw[Z0.out] at W3'
 rw[←W3']
 rw[show w.heap.size+1+1=w.heap.size+2 from rfl]
 clear W3' W3
 refine wp_region_list ?_
 simp only[]
 refine Xac 177 rfl _ rfl ⟨_,_,rfl,LD.out,?_⟩
 clear LD
 go_wp2_with fail
 go_loopg [4,5,7] 64 (fun k v4 v5 i wr=>∃j:Nat,j≤64∧k=64-j∧i=.int .i64 (j:Int)∧WB wr (w.heap.size+2) 182 (Xzt l j)∧WB wr (w.heap.size+1) 182 (List.replicate 16 0)∧Below w.heap.size w wr)
 case atStart=>exact⟨0,by omega,rfl,rfl,b2,b1,B3.out⟩
 case round=>
  obtain⟨j,hj,rfl,rfl,h2,h1,hbw⟩:=hrel
  have HB:=Hd hbw
  have H1:=Hd h1;have H2:=Hd h2
  have LO:=Hd (Xxi HL.out.lt j)
  clear hbw h1 h2 b1 b2
  by_cases h:j<64
  ·obtain⟨c,hc⟩:∃c,c=l.getD j 0:=⟨_,rfl⟩
   have ix:∀w,(Instr.index 177 (.agg cs) (.int .i64 (j:Int))).run Tryz.prog w=.ok (.int .u8 (c:Int)) w:=fun w=>by rw[HCS.out];exact EX.out j h c hc w
   have hjl:j<l.length:=by rw[HL.out.len];exact h
   have hc2:c<256:=by rw[hc,List.getD_eq_getElem?_getD,List.getElem?_eq_getElem hjl,Option.getD_some];exact HL.out.lt _ (List.getElem_mem hjl)
   obtain⟨q,hq⟩:∃q,q=j/4:=⟨_,rfl⟩
   have hq2:q<16:=by omega
   obtain⟨v,hv⟩:∃v,v=(Xzt l j).getD q 0:=⟨_,rfl⟩
   have hv2:v<4294967296:=by rw[hv];exact LO.out.at q
   have cl:wr.cell? ⟨w.heap.size+2,q,none⟩=some (.int .u32 ((v:Nat):Int)):=by rw[hv];exact H2.out.cell (by rw[LO.out.len];exact hq2)
   have fr:wr.frozen? ⟨w.heap.size+2,q,none⟩=false:=Xd3 H2.out q
   have NX:Hid (Xzt l (j+1)=(Xzt l j).set q (Xnw v 8|||c)):=Hd (by rw[Xol];unfold Xsq;rw[←hq,←hv,←hc])
   have jq:(j:Int)/4=(q:Int):=by omega
   clear hq hv hc hjl
   go_wp2_with fail
   have e0:((v:Int)*256%4294967296)=((Xnw v 8:Nat):Int):=by unfold Xnw;omega
   rw[e0,u32_or_nat (Xnw v 8) c (Nat.mod_lt _ (by omega)) (by omega)]
   go_roundg (64-(j+1))
   case measure=>omega
   case rel=>exact⟨j+1,by omega,rfl,by go_num,by rw[NX.out];exact H2.out.set q _,by have:=H1.out;unfold WB at this⊢;rw[Xjr _ _ _ _ _ (by omega)];exact this,HB.out.setCell (Nat.le_add_right _ 2) _⟩
  ·obtain rfl:j=64:=by omega
   have L2:=Hd (H2.out.load LO.out)
   have Z1:=Xhh (List.replicate 16 0)
   have ST:=Hd (run_storeVar_row (P:=Tryz.prog) wr (w.heap.size+1) _ 182 (wA (List.replicate 16 0)) (wA (ldF l)) H1.out (by rw[Xhh];unfold ldF;rw[LO.out.len];exact Xmh) (by rw[Xhh,Xhh];unfold ldF;rw[LO.out.len];simp) (Ygu _))
   have W2:=Hd (setRow_heap wr (w.heap.size+1) _ (wA (ldF l)) _ _ H1.out)
   have SZ:Hid ((Tryz.prog.info? 182).map (·.size)=some (wA (ldF l)).size):=Hd (by rw[Xhh];unfold ldF;rw[LO.out.len];exact Xmh)
   have BE:=Hd (below_setRow HB.out (Nat.le_succ _) (wA (ldF l)))
   obtain⟨rs,hrs⟩:∃rs,rs=wA (ldF l):=⟨_,rfl⟩
   have e1:wA (Xzt l 64)=wA (ldF l):=rfl
   rw[e1,←hrs] at L2
   rw[←hrs] at ST W2 SZ BE
   have HRS:=Hd hrs
   clear hrs e1 Z1 h HB EX
   go_wp2_with (first
    |((with_reducible refine Xac 182 rfl _ rfl ?_);refine⟨_,_,rfl,L2.out,?_⟩)
    |((with_reducible refine Xab 182 rfl _ _ rfl ?_);refine⟨_,_,_,rfl,rfl,ST.out,?_⟩))
   exact bodyPost_ret (results_cell_row Tryz.results123 _ _ (w.heap.size+1) _ _ _ _ rfl W2.out Tryz.underlying182 rfl SZ.out) rfl ⟨by rw[HRS.out],BE.out⟩
theorem Yaz (w:World) (x y:W8):
    Calls Tryz.prog 163 #[.agg (wC x),.agg (wC y)] w fun e w'=>e=.returned (.agg (wC (Xhm x y)))∧Below w.heap.size w w':=by
 obtain⟨w0,hw0⟩:∃w0,w0=((w.alloc (.cells (wC x) 176)).alloc (.cells (wC y) 176)).alloc (.cells wZ 176):=⟨_,rfl⟩
 have b0:w0.heap[w.heap.size]?=some (.cells (wC x) 176 (0,0)):=by rw[hw0];exact Xaf (Xaf (heap_alloc_last w _))
 have b1:w0.heap[w.heap.size+1]?=some (.cells (wC y) 176 (0,0)):=by
  rw[hw0];have:=heap_alloc_last (w.alloc (.cells (wC x) 176)) (.cells (wC y) 176);rw[World.size_alloc] at this;exact Xaf this
 have b2:w0.heap[w.heap.size+2]?=some (.cells wZ 176 (0,0)):=by
  rw[hw0];have:=heap_alloc_last ((w.alloc (.cells (wC x) 176)).alloc (.cells (wC y) 176)) (.cells wZ 176);rw[World.size_alloc,World.size_alloc] at this;exact this
 have BW:Hid (Below w.heap.size w w0):=Hd (by rw[hw0];exact(((Below.refl _ _).alloc (Nat.le_refl _) _).alloc (by simp) _).alloc (by simp;omega) _)
 have B2:=Hd b2
 have hw0':=hw0
 unfold wC wZ at hw0'
 have W0:=Hd hw0'
 have c0:w0.cell? ⟨w.heap.size,0,none⟩=some (.int .u32 (x.a:Int)):=cell_of_row w0 _ 0 _ _ _ b0
 have c1:w0.cell? ⟨w.heap.size,1,none⟩=some (.int .u32 (x.b:Int)):=cell_of_row w0 _ 1 _ _ _ b0
 have c2:w0.cell? ⟨w.heap.size,2,none⟩=some (.int .u32 (x.c:Int)):=cell_of_row w0 _ 2 _ _ _ b0
 have c3:w0.cell? ⟨w.heap.size,3,none⟩=some (.int .u32 (x.d:Int)):=cell_of_row w0 _ 3 _ _ _ b0
 have c4:w0.cell? ⟨w.heap.size,4,none⟩=some (.int .u32 (x.e:Int)):=cell_of_row w0 _ 4 _ _ _ b0
 have c5:w0.cell? ⟨w.heap.size,5,none⟩=some (.int .u32 (x.f:Int)):=cell_of_row w0 _ 5 _ _ _ b0
 have c6:w0.cell? ⟨w.heap.size,6,none⟩=some (.int .u32 (x.g:Int)):=cell_of_row w0 _ 6 _ _ _ b0
 have c7:w0.cell? ⟨w.heap.size,7,none⟩=some (.int .u32 (x.i:Int)):=cell_of_row w0 _ 7 _ _ _ b0
 have d0:w0.cell? ⟨w.heap.size+1,0,none⟩=some (.int .u32 (y.a:Int)):=cell_of_row w0 _ 0 _ _ _ b1
 have d1:w0.cell? ⟨w.heap.size+1,1,none⟩=some (.int .u32 (y.b:Int)):=cell_of_row w0 _ 1 _ _ _ b1
 have d2:w0.cell? ⟨w.heap.size+1,2,none⟩=some (.int .u32 (y.c:Int)):=cell_of_row w0 _ 2 _ _ _ b1
 have d3:w0.cell? ⟨w.heap.size+1,3,none⟩=some (.int .u32 (y.d:Int)):=cell_of_row w0 _ 3 _ _ _ b1
 have d4:w0.cell? ⟨w.heap.size+1,4,none⟩=some (.int .u32 (y.e:Int)):=cell_of_row w0 _ 4 _ _ _ b1
 have d5:w0.cell? ⟨w.heap.size+1,5,none⟩=some (.int .u32 (y.f:Int)):=cell_of_row w0 _ 5 _ _ _ b1
 have d6:w0.cell? ⟨w.heap.size+1,6,none⟩=some (.int .u32 (y.g:Int)):=cell_of_row w0 _ 6 _ _ _ b1
 have d7:w0.cell? ⟨w.heap.size+1,7,none⟩=some (.int .u32 (y.i:Int)):=cell_of_row w0 _ 7 _ _ _ b1
 have R:Hid (wC (Xhm x y)=#[.int .u32 (((x.a:Int)+(y.a:Int))%4294967296),.int .u32 (((x.b:Int)+(y.b:Int))%4294967296),.int .u32 (((x.c:Int)+(y.c:Int))%4294967296),.int .u32 (((x.d:Int)+(y.d:Int))%4294967296),.int .u32 (((x.e:Int)+(y.e:Int))%4294967296),.int .u32 (((x.f:Int)+(y.f:Int))%4294967296),.int .u32 (((x.g:Int)+(y.g:Int))%4294967296),.int .u32 (((x.i:Int)+(y.i:Int))%4294967296)]):=Hd (by unfold wC Xhm;simp only[Xc9])
 have e0:w0.frozen? ⟨w.heap.size+2,0,none⟩=false:=Xd3 b2 0
 have g0:w0.cell? ⟨w.heap.size+2,0,none⟩=some (.int .u32 0):=cell_of_row w0 _ 0 _ _ _ b2
 have e1:w0.frozen? ⟨w.heap.size+2,1,none⟩=false:=Xd3 b2 1
 have g1:w0.cell? ⟨w.heap.size+2,1,none⟩=some (.int .u32 0):=cell_of_row w0 _ 1 _ _ _ b2
 have e2:w0.frozen? ⟨w.heap.size+2,2,none⟩=false:=Xd3 b2 2
 have g2:w0.cell? ⟨w.heap.size+2,2,none⟩=some (.int .u32 0):=cell_of_row w0 _ 2 _ _ _ b2
 have e3:w0.frozen? ⟨w.heap.size+2,3,none⟩=false:=Xd3 b2 3
 have g3:w0.cell? ⟨w.heap.size+2,3,none⟩=some (.int .u32 0):=cell_of_row w0 _ 3 _ _ _ b2
 have e4:w0.frozen? ⟨w.heap.size+2,4,none⟩=false:=Xd3 b2 4
 have g4:w0.cell? ⟨w.heap.size+2,4,none⟩=some (.int .u32 0):=cell_of_row w0 _ 4 _ _ _ b2
 have e5:w0.frozen? ⟨w.heap.size+2,5,none⟩=false:=Xd3 b2 5
 have g5:w0.cell? ⟨w.heap.size+2,5,none⟩=some (.int .u32 0):=cell_of_row w0 _ 5 _ _ _ b2
 have e6:w0.frozen? ⟨w.heap.size+2,6,none⟩=false:=Xd3 b2 6
 have g6:w0.cell? ⟨w.heap.size+2,6,none⟩=some (.int .u32 0):=cell_of_row w0 _ 6 _ _ _ b2
 have e7:w0.frozen? ⟨w.heap.size+2,7,none⟩=false:=Xd3 b2 7
 have g7:w0.cell? ⟨w.heap.size+2,7,none⟩=some (.int .u32 0):=cell_of_row w0 _ 7 _ _ _ b2
 clear hw0 hw0' b0 b1 b2
 unfold wC
 go_enter Tryz.func163,Tryz.ntmps163
 go_upto_region 1 with fail
 rw[←W0.out,show w.heap.size+1+1=w.heap.size+2 from rfl]
 clear W0
 go_wp2_with fail
 exact bodyPost_ret (results_cell_row Tryz.results163 _ _ (w.heap.size+2) _ _ _ _ rfl (Yj7 (w:=w0) B2.out _ _ _ _ _ _ _ _) Tryz.underlying176 rfl Xc5) rfl ⟨(by have:=R.out;unfold wC at this;rw[this]),Xl5 BW.out (Nat.le_add_right _ 2) _ _ _ _ _ _ _ _⟩
end Go.Proofs.YtohmdledkhgdaaaGreatDoor
