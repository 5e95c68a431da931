/- control.checkText, decimal. -/
import Derived.Test.YtohmdledkhgdaaaGreatDoorPa08
namespace Go.Proofs.YtohmdledkhgdaaaGreatDoor
open Go.RowKit
set_option linter.unusedVariables false
set_option maxRecDepth 100000
theorem Xnh {p:Nat→Bool} {l:List Nat} {k c:Nat} (hk:k<l.length) (hc:c=l.getD k 0):(l.take (k+1)).all p=((l.take k).all p&&p c):=by
 rw[List.getD_eq_getElem?_getD,List.getElem?_eq_getElem hk,Option.getD_some] at hc
 rw[List.take_succ_eq_append_getElem hk,List.all_append,←hc];simp
theorem Xrh {p:Nat→Bool} {l:List Nat} {k c:Nat} (hk:k<l.length) (hc:c=l.getD k 0) (h:p c=false):l.all p=false:=by
 rw[List.getD_eq_getElem?_getD,List.getElem?_eq_getElem hk,Option.getD_some] at hc
 rw[List.all_eq_false];exact⟨_,List.getElem_mem hk,by rw[←hc,h];decide⟩
set_option maxHeartbeats 1000000 in
theorem Xyv (s:ByteArray) (w:World) (hs:s.size≤1000000):
    Calls Tryz.prog 227 #[.string s] w fun e w'=>e=.returned (.int .i64 (Xmd (bs s):Nat))∧w=w':=by
 have LEN:=Hd (Xaa s)
 by_cases h200:200<s.size
 ·have T:Hid (Xmd (bs s)=5):=Hd (by unfold Xmd;rw[if_pos (by rw[LEN.out];exact h200)])
  go_enter Tryz.func227,Tryz.ntmps227
  go_wp2_with fail
  go_ret
  exact⟨by rw[T.out];rfl,rfl⟩
 ·have P1:=Hd (fun w=>Xch s ⟨#[32]⟩ w)
  have P2:=Hd (fun w=>Xdg s ⟨#[32]⟩ w (by omega))
  rw[show(⟨#[32]⟩:ByteArray).data.toList=[32] from rfl,Xx4] at P1
  rw[show(⟨#[32]⟩:ByteArray).data.toList=[32] from rfl,Xx3] at P2
  obtain⟨a,ha⟩:∃a,a=decide ((bs s).head?=some 32):=⟨_,rfl⟩
  obtain⟨b,hb⟩:∃b,b=decide ((bs s).getLast?=some 32):=⟨_,rfl⟩
  have P1':Hid (∀w,Calls Tryz.prog 26 #[.string s,.string ⟨#[32]⟩] w fun e w'=>e=.returned (.bool a)∧w'=w):=Hd (by rw[ha];exact P1.out)
  have P2':Hid (∀w,Calls Tryz.prog 21 #[.string s,.string ⟨#[32]⟩] w fun e w'=>e=.returned (.bool b)∧w'=w):=Hd (by rw[hb];exact P2.out)
  have T:Hid (Xmd (bs s)=if(bs s).all prC=false then 6 else if(a||b)=true then 3 else 0):=Hd (by
   unfold Xmd;rw[if_neg (by rw[LEN.out];exact h200),ha,hb];simp)
  clear P1 P2 ha hb
  go_enter Tryz.func227,Tryz.ntmps227
  go_wp2_with fail
  go_loopg [3,9] s.size (fun k c i wr=>∃j:Nat,j≤s.size∧k=s.size-j∧i=.int .i64 (j:Int)∧Hid (((bs s).take j).all prC=true)∧w=wr)
  case atStart=>exact⟨0,by omega,rfl,rfl,rfl,rfl⟩
  case round=>
   obtain⟨j,hj,rfl,rfl,hr,rfl⟩:=hrel
   by_cases hlt:j<s.size
   ·obtain⟨c,hc⟩:∃c,c=(bs s).getD j 0:=⟨_,rfl⟩
    have hc2:c<256:=by rw[hc];exact Xa8 s j
    have xn:∀w,(Instr.index 9 (.string s) (.int .i64 (j:Int))).run Tryz.prog w=.ok (.int .u8 (c:Int)) w:=fun w=>by rw[Xa7 9 Tryz.underlying9 s .i64 j j rfl hlt,hc]
    have HC:=Hd hc
    have HJ:Hid (j<(bs s).length):=Hd (by rw[LEN.out];exact hlt)
    clear hc
    rcases(by omega:c<32∨(32≤c∧c≤126)∨126<c) with h|⟨h,h2⟩|h
    ·have ST:Hid (Xmd (bs s)=6):=Hd (by rw[T.out,if_pos (Xrh HJ.out HC.out (by unfold prC;rw[decide_eq_false (by omega)];rfl))])
     go_wp2_with fail
     go_ret
     exact⟨by rw[ST.out];rfl,rfl⟩
    ·have ST:Hid (((bs s).take (j+1)).all prC=true):=Hd (by rw[Xnh HJ.out HC.out,hr.out];unfold prC;rw[decide_eq_true h,decide_eq_true h2];rfl)
     go_wp2_with fail
     go_roundg (s.size-(j+1))
     case measure=>omega
     case rel=>exact⟨j+1,by omega,rfl,by go_num,ST,rfl⟩
    ·have ST:Hid (Xmd (bs s)=6):=Hd (by rw[T.out,if_pos (Xrh HJ.out HC.out (by unfold prC;rw[decide_eq_false (show¬c≤126 by omega),Bool.and_false]))])
     have h3:¬c<32:=by omega
     go_wp2_with fail
     go_ret
     exact⟨by rw[ST.out];rfl,rfl⟩
   ·obtain rfl:j=s.size:=by omega
    have ST:Hid (Xmd (bs s)=if(a||b)=true then 3 else 0):=Hd (by
     rw[T.out,if_neg];rw[List.take_of_length_le (by rw[LEN.out];exact Nat.le_refl _)] at hr;rw[hr.out];decide)
    clear hr T
    cases a<;>cases b
    all_goals
     go_wp2_with (first
      |(go_at_call 26;refine(P1'.out _).mono ?_;rintro e w' ⟨rfl,h⟩;cases h)
      |(go_at_call 21;refine(P2'.out _).mono ?_;rintro e w' ⟨rfl,h⟩;cases h))
     go_ret
     exact⟨by rw[ST.out];rfl,rfl⟩
def Xnk (l:List Nat):Nat:=l.foldl (fun n c=>10*n+(c-48)) 0
theorem Xoz {l:List Nat} {k c:Nat} (hk:k<l.length) (hc:c=l.getD k 0):Xnk (l.take (k+1))=10*Xnk (l.take k)+(c-48):=by
 rw[List.getD_eq_getElem?_getD,List.getElem?_eq_getElem hk,Option.getD_some] at hc
 rw[List.take_succ_eq_append_getElem hk,Xnk,Xnk,List.foldl_append,←hc];rfl
theorem Xyp {l:List Nat}:∀k,k≤7→(∀j,j<k→l.getD j 0<58)→k≤l.length→Xnk (l.take k)<10^k
 |0,_,_,_=>by simp[Xnk]
 |k+1,h7,h,hl=>by
  have ih:=Xyp k (by omega) (fun j hj=>h j (by omega)) (by omega)
  rw[Xoz (by omega) rfl]
  have:=h k (by omega)
  rw[Nat.pow_succ];omega
theorem Yb5 {l:List Nat} (k:Nat) (h7:k≤7) (h:Xnk (l.take k)<10^k):Xnk (l.take k)<10000000:=Nat.lt_of_lt_of_le h (by
 have:(10:Nat)^k≤10^7:=Nat.pow_le_pow_right (by omega) h7
 simpa using this)
def Yc1 (l:List Nat) (w:World) (e:Ending) (w':World):Prop:=
 (match Xkx l with|none=>e=.returned (.tuple #[.int .i64 0,.bool false])|some n=>e=.returned (.tuple #[.int .i64 (n:Int),.bool true]))∧w=w'
theorem Xqa {l:List Nat} (h:l=[]∨7<l.length∨(1<l.length∧l.getD 0 0=48)∨l.all dig=false):Xkx l=none:=by unfold Xkx;rw[if_pos h]
theorem Yba {l:List Nat} (h:¬(l=[]∨7<l.length∨(1<l.length∧l.getD 0 0=48)∨l.all dig=false)):Xkx l=some (Xnk l):=by unfold Xkx;rw[if_neg h];rfl
set_option maxHeartbeats 2000000 in
theorem Xqz (s:ByteArray) (w:World) (hs:s.size≤1000000):
    Calls Tryz.prog 225 #[.string s] w (Yc1 (bs s) w):=by
 have LEN:=Hd (Xaa s)
 by_cases h0:s.size=0
 ·obtain rfl:=Xea h0
  clear h0 hs
  go_enter Tryz.func225,Tryz.ntmps225
  go_wp2_with fail
  go_ret2
  exact⟨rfl,rfl⟩
 ·have n0:=Xdr h0
  by_cases h7:7<s.size
  ·have N:Hid (Xkx (bs s)=none):=Hd (Xqa (.inr (.inl (by rw[LEN.out];exact h7))))
   go_enter Tryz.func225,Tryz.ntmps225
   go_wp2_with fail
   go_ret2
   exact⟨by rw[N.out];rfl,rfl⟩
  ·obtain⟨f,hf⟩:∃f,f=(bs s).getD 0 0:=⟨_,rfl⟩
   have hf2:f<256:=by rw[hf];exact Xa8 s 0
   have x0:=Xzu s f hf (by omega)
   have HF:=Hd hf
   clear hf
   by_cases hz:1<s.size∧f=48
   ·have N:Hid (Xkx (bs s)=none):=Hd (Xqa (.inr (.inr (.inl ⟨by rw[LEN.out];exact hz.1,by rw[←HF.out];exact hz.2⟩))))
    obtain⟨hz1,rfl⟩:=hz
    go_enter Tryz.func225,Tryz.ntmps225
    go_wp2_with fail
    go_ret2
    exact⟨by rw[N.out];rfl,rfl⟩
   ·have ZN:Hid (¬(1<(bs s).length∧(bs s).getD 0 0=48)):=Hd (by rw[LEN.out,←HF.out];exact hz)
    have NE:Hid (bs s≠[]):=Hd (fun e=>h0 (by rw[←LEN.out,e];rfl))
    have BAD:Hid (∀j c,j<s.size→c=(bs s).getD j 0→dig c=false→Xkx (bs s)=none):=Hd (fun j c h1 h2 h3=>Xqa (.inr (.inr (.inr (Xrh (by rw[LEN.out];exact h1) h2 h3)))))
    have GOOD:Hid ((∀j,j<s.size→dig ((bs s).getD j 0)=true)→Xkx (bs s)=some (Xnk (bs s))):=Hd (fun hd=>Yba (by
     rintro(h|h|h|h)
     ·exact NE.out h
     ·rw[LEN.out] at h;exact h7 h
     ·exact ZN.out h
     ·rw[List.all_eq_false] at h
      obtain⟨x,hx,hn⟩:=h
      obtain⟨i,hi,rfl⟩:=List.getElem_of_mem hx
      have:=hd i (by rw[←LEN.out];exact hi)
      rw[List.getD_eq_getElem?_getD,List.getElem?_eq_getElem hi,Option.getD_some] at this
      exact hn this))
    have K:¬1<s.size∨(1<s.size∧((f:Int)==48)=false):=by
     by_cases h:1<s.size
     ·exact .inr ⟨h,Xak (fun e=>hz ⟨h,by omega⟩)⟩
     ·exact .inl h
    clear hz
    rcases K with K|⟨K,q48⟩
    all_goals
     go_enter Tryz.func225,Tryz.ntmps225
     go_wp2_with fail
     go_loopg [4,5,25] s.size (fun k n c i wr=>∃j:Nat,j≤s.size∧k=s.size-j∧i=.int .i64 (j:Int)∧n=.int .i64 (Xnk ((bs s).take j):Nat)∧Xnk ((bs s).take j)<10000000∧Hid (∀q,q<j→dig ((bs s).getD q 0)=true)∧w=wr)
     case atStart=>exact⟨0,by omega,rfl,rfl,rfl,by simp[Xnk],(fun q hq=>by omega),rfl⟩
     case round=>
      obtain⟨j,hj,rfl,rfl,rfl,hd,hg,rfl⟩:=hrel
      by_cases hlt:j<s.size
      ·obtain⟨c,hc⟩:∃c,c=(bs s).getD j 0:=⟨_,rfl⟩
       have hc2:c<256:=by rw[hc];exact Xa8 s j
       have xn:∀w,(Instr.index 9 (.string s) (.int .i64 (j:Int))).run Tryz.prog w=.ok (.int .u8 (c:Int)) w:=fun w=>by rw[Xa7 9 Tryz.underlying9 s .i64 j j rfl hlt,hc]
       have HC:=Hd hc
       have DS:Hid (Xnk ((bs s).take (j+1))=10*Xnk ((bs s).take j)+(c-48)):=Hd (Xoz (by rw[LEN.out];exact hlt) hc)
       obtain⟨d,hdv⟩:∃d,d=Xnk ((bs s).take j):=⟨_,rfl⟩
       rw[←hdv] at hd DS⊢
       clear hc hdv
       rcases(by omega:c<48∨(48≤c∧c≤57)∨57<c) with h|⟨h,h2⟩|h
       ·have ST:Hid (Xkx (bs s)=none):=Hd (BAD.out j c hlt HC.out (by unfold dig;rw[decide_eq_false (by omega)];rfl))
        go_wp2_with fail
        go_ret2
        exact⟨by rw[ST.out];rfl,rfl⟩
       ·have G2:Hid (∀q,q<j+1→dig ((bs s).getD q 0)=true):=Hd (fun q hq=>by
           by_cases e:q=j
           ·rw[e,←HC.out];unfold dig;rw[decide_eq_true h,decide_eq_true h2];rfl
           ·exact hg.out q (by omega))
        have B2:Hid (Xnk ((bs s).take (j+1))<10000000):=Hd (Yb5 (j+1) (by omega) (Xyp (j+1) (by omega) (fun q hq=>by have:=G2.out q hq;unfold dig at this;simp at this;simpa using(by omega:(bs s)[q]?.getD 0<58)) (by rw[LEN.out];omega)))
        have w1:IntKind.i64.wrap (10*(d:Int)+((c:Int)-48))=10*(d:Int)+((c:Int)-48):=IntWalk.i64_in _ (by omega)
        have h3:¬c<48:=by omega
        have h4:¬57<c:=by omega
        go_wp2_with fail
        go_roundg (s.size-(j+1))
        case measure=>omega
        case rel=>exact⟨j+1,by omega,rfl,by go_num,by rw[DS.out];first|rfl|(congr 1;omega),B2.out,G2,rfl⟩
       ·have ST:Hid (Xkx (bs s)=none):=Hd (BAD.out j c hlt HC.out (by unfold dig;rw[decide_eq_false (show¬c≤57 by omega),Bool.and_false]))
        have h3:¬c<48:=by omega
        go_wp2_with fail
        go_ret2
        exact⟨by rw[ST.out];rfl,rfl⟩
      ·obtain rfl:j=s.size:=by omega
       have ST:Hid (Xkx (bs s)=some (Xnk (bs s))):=Hd (GOOD.out hg.out)
       rw[List.take_of_length_le (by rw[LEN.out];exact Nat.le_refl _)]
       clear hd
       go_wp2_with fail
       go_ret2
       exact⟨by rw[ST.out];rfl,rfl⟩
def WS (w:World) (b:Nat) (t:ByteArray) (st en:Nat) (at_:Int) (er:Nat):Prop:=
 w.heap[b]?=some (.cells #[.string t,.int .i64 (st:Int),.int .i64 (en:Int),.int .i64 at_,.int .i64 (er:Int)] 207 (0,0))∧en≤t.size
theorem WS.lt {w:World} {b:Nat} {t:ByteArray} {st en:Nat} {at_:Int} {er:Nat} (h:WS w b t st en at_ er):b<w.heap.size:=lt_of_block h.1
theorem WS.below {w w':World} {b:Nat} {t:ByteArray} {st en:Nat} {at_:Int} {er:Nat} (h:WS w b t st en at_ er) (hb:Below w.heap.size w w'):WS w' b t st en at_ er:=⟨(hb.block b h.lt).trans h.1,h.2⟩
theorem Fr1.setC {b j:Nat} {w:World} (u:Value):Fr1 b w (w.setCell ⟨b,j,none⟩ u):=
 ⟨rfl,rfl,rfl,by simp[World.setCell],fun k _ hne=>Below.heap_setCell _ _ _ _ hne⟩
def Yc0 (w:World) (b:Nat) (t:ByteArray) (st en er n:Nat) (e:Ending) (w':World):Prop:=
 (∃v,e=.returned v)∧(∃a,WS w' b t st en a (fe er n))∧Fr1 b w w'
theorem Xb7 (w:World) (b:Nat) (t:ByteArray) (st en:Nat) (at_:Int) (er:Nat) (h:WS w b t st en at_ er) (k:Int) (n:Nat):
    Calls Tryz.prog 146 #[.pointer (some ⟨b,0,none⟩),.int .i64 k,.int .i64 (n:Int)] w (Yc0 w b t st en er n):=by
 have hc4:w.cell? ⟨b,4,none⟩=some (.int .i64 (er:Int)):=cell_of_row w b 4 _ _ _ h.1
 have hc3:w.cell? ⟨b,3,none⟩=some (.int .i64 at_):=cell_of_row w b 3 _ _ _ h.1
 have hf3:w.frozen? ⟨b,3,none⟩=false:=by have:=h.1;simp[World.frozen?,this]
 have hf4:w.frozen? ⟨b,4,none⟩=false:=by have:=h.1;simp[World.frozen?,this]
 have H:=Hd h
 clear h
 by_cases h0:er=0
 ·subst h0
  by_cases hn:n=0
  ·subst hn
   go_enter Tryz.func146,Tryz.ntmps146
   go_wp2_with fail
   go_end0
   exact⟨⟨_,rfl⟩,⟨_,H.out⟩,Fr1.refl _ _⟩
  ·have hz:((n:Int)==0)=false:=Xak (by omega)
   have hz2:((n:Int) !=0)=true:=by simp[bne,hz]
   have HN:=Hd hn
   have S2:Hid (WS ((w.setCell ⟨b,3,none⟩ (.int .i64 k)).setCell ⟨b,4,none⟩ (.int .i64 (n:Int))) b t st en k n):=Hd ⟨Xd0 (Xd0 H.out.1 3 _) 4 _,H.out.2⟩
   clear hn
   go_enter Tryz.func146,Tryz.ntmps146
   go_wp2_with fail
   go_end0
   exact⟨⟨_,rfl⟩,⟨_,S2.out⟩,(Fr1.setC _).trans (Fr1.setC _)⟩
 ·have hz:((er:Int)==0)=false:=Xak (by omega)
  have HE:Hid (fe er n=er):=Hd (by unfold fe;rw[if_pos h0])
  clear h0
  go_enter Tryz.func146,Tryz.ntmps146
  go_wp2_with fail
  go_end0
  exact⟨⟨_,rfl⟩,⟨_,by rw[HE.out];exact H.out⟩,Fr1.refl _ _⟩
theorem Xyu (t:ByteArray) (c:UInt8) (hs:t.size<4294967281):
    ∃(x y:ByteArray) (b:Bool),(bs x=Xh5 c.toNat (bs t)∧bs y=(bs t).drop ((Xh5 c.toNat (bs t)).length+1)∧b=decide ((Xh5 c.toNat (bs t)).length<(bs t).length)∧x.size≤t.size)∧
     ∀w:World,(∃m,w.cell? ⟨2,0,none⟩=some (.int .i64 m))→Calls Tryz.prog 67 #[.string t,.string ⟨#[c]⟩] w fun e w'=>e=.returned (.tuple #[.string x,.string y,.bool b])∧Dr w w':=by
 refine⟨⟨(Lib.cut t.data.toList [c]).1.toArray⟩,⟨(Lib.cut t.data.toList [c]).2.1.toArray⟩,(Lib.cut t.data.toList [c]).2.2,⟨?_,?_,?_,?_⟩,?_⟩
 case refine_5=>
  rintro w ⟨m,hm⟩
  exact(Xgc t ⟨#[c]⟩ m w hs hm).mono fun e w' ⟨h1,h2⟩=>⟨h1,h2⟩
 all_goals
  have hix:=Lib.index_one t.data.toList c
  unfold Lib.cut
  rw[hix]
  by_cases h:Lib.indexByte t.data.toList c=-1
  ·have hn:=Xeg h
   rw[h]
   simp only[show¬(0:Int)≤-1 by decide,if_false]
   have hu:Xh5 c.toNat (bs t)=bs t:=hn
   first
    |(rw[Xip];exact hu.symm)
    |(rw[Xip,hu,List.drop_of_length_le (by omega)];rfl)
    |(rw[hu];simp)
    |exact Nat.le_refl _
  ·have hge:=Lib.index_ge t.data.toList [c]
   rw[hix] at hge
   obtain⟨i,hi⟩:∃i:Nat,Lib.indexByte t.data.toList c=i:=⟨(Lib.indexByte t.data.toList c).toNat,by omega⟩
   obtain⟨h3,h4,h5⟩:=Xef hi
   rw[hi]
   have hl:t.data.toList.length=(bs t).length:=by simp[bs]
   have hu:Xh5 c.toNat (bs t)=(bs t).take i:=h3
   have hul:(Xh5 c.toNat (bs t)).length=i:=by rw[hu,List.length_take];omega
   simp only[show(0:Int)≤(i:Int) from Int.natCast_nonneg i,if_true,Int.toNat_natCast,List.length_singleton]
   first
    |(rw[Xip,hu,List.map_take];rfl)
    |(rw[Xip,hul,List.map_drop];rfl)
    |(rw[hul];simp;omega)
    |(rw[←Xaa,Xip,←Xaa];simp[bs];omega)
theorem Dr.fr {b:Nat} {w w':World} (h:Dr w w'):Fr1 b w w':=Fr1.of_below (Dr.below h)
theorem Xbr {b:Nat} {w w':World} (hE:Env w) (hb:9≤b) (h:Fr1 b w w'):Env w':=hE.below (h.below hE.size hb) (Nat.le_refl _)
def Xzm (w:World) (b:Nat) (t:ByteArray) (st en:Nat) (er:Nat) (e:Ending) (w':World):Prop:=
 ∃(x:ByteArray) (ok:Bool) (st' en':Nat) (a:Int) (er':Nat),e=.returned (.tuple #[.string x,.bool ok])∧WS w' b t st' en' a er'∧Fr1 b w w'∧x.size≤t.size∧
  ((ok=false∧er'≠0∧∀k,fe er (nxt ((bs t).drop en) k)=er')∨
   (ok=true∧er=0∧er'=0∧∀k,nxt ((bs t).drop en) k=k (bs x) ((bs t).drop en')))
set_option maxHeartbeats 1000000 in
theorem Xfo (w:World) (b:Nat) (t:ByteArray) (st en:Nat) (at_:Int) (er:Nat) (h:WS w b t st en at_ er) (hE:Env w) (hb9:9≤b) (ht:t.size≤1000000):
    Calls Tryz.prog 224 #[.pointer (some ⟨b,0,none⟩)] w (Xzm w b t st en er):=by
 have hc0:w.cell? ⟨b,0,none⟩=some (.string t):=cell_of_row w b 0 _ _ _ h.1
 have hc2:w.cell? ⟨b,2,none⟩=some (.int .i64 (en:Int)):=cell_of_row w b 2 _ _ _ h.1
 have hc4:w.cell? ⟨b,4,none⟩=some (.int .i64 (er:Int)):=cell_of_row w b 4 _ _ _ h.1
 have hc1:w.cell? ⟨b,1,none⟩=some (.int .i64 (st:Int)):=cell_of_row w b 1 _ _ _ h.1
 have hf1:w.frozen? ⟨b,1,none⟩=false:=by have:=h.1;simp[World.frozen?,this]
 have hen:=h.2
 have H:=Hd h;have HE:=Hd hE;have LEN:=Hd (Xaa t)
 clear h hE
 by_cases h0:er=0
 ·subst h0
  by_cases hq:en=t.size
  ·have hz:((en:Int)==(t.size:Int))=true:=by rw[hq];simp
   have FL:=Hd (fun n:Nat=>Xb7 (w.drewN n) b t st en at_ 0 (H.out.below (Dr.below ⟨n,rfl⟩)) (t.size:Int) 4)
   have DR:Hid (((bs t).drop en)=[]):=Hd (by rw[List.drop_eq_nil_iff,LEN.out];omega)
   clear hq
   have hc4':w.cell? ⟨b,4,none⟩=some (.int .i64 0):=hc4
   clear hc4
   go_enter Tryz.func224,Tryz.ntmps224
   go_upto_region 1 with fail
   go_quiet (fail)
   go_wp2_with fail
   refine(FL.out _).mono ?_
   rintro e w1 ⟨⟨v,rfl⟩,⟨a,h1⟩,hfr⟩
   have H1:Hid (WS w1 b t st en a 4):=Hd h1
   have F1:Hid (Fr1 b w w1):=Hd ((Dr.fr ⟨nq,rfl⟩).trans hfr)
   have hc5:w1.cell? ⟨b,4,none⟩=some (.int .i64 4):=cell_of_row w1 b 4 _ _ _ h1.1
   clear h1 hfr FL hc0 hc1 hc2 hc4' hf1
   go_wp2_with fail
   go_ret2
   exact⟨⟨#[]⟩,false,st,en,a,4,rfl,H1.out,F1.out,Nat.zero_le _,.inl ⟨rfl,by decide,fun k=>by rw[DR.out];rfl⟩⟩
  ·have hlt:en<t.size:=by omega
   have hz:((en:Int)==(t.size:Int))=false:=Xak (by omega)
   obtain⟨t1,ht1⟩:∃t1,t1=t.extract (en+1) t.size:=⟨_,rfl⟩
   have hts:t1.size=t.size-(en+1):=by rw[ht1,ByteArray.size_extract];omega
   have hb1:bs t1=(bs t).drop (en+1):=by rw[ht1,Xby,List.take_of_length_le (by rw[LEN.out];exact Nat.le_refl _)]
   obtain⟨x,y,ok,⟨hx,hy,hok,hxs⟩,hcut⟩:=Xyu t1 32 (by omega)
   have hc4':w.cell? ⟨b,4,none⟩=some (.int .i64 0):=hc4
   have HT:=Hd ht1
   have hxl:(bs x).length=x.size:=Xaa x
   have EN:Hid (en+1+x.size≤t.size):=Hd (by omega)
   have DROP:Hid (∀k,nxt ((bs t).drop en) k=k (bs x) ((bs t).drop (en+1+x.size))):=Hd (fun k=>by
    rw[show(bs t).drop en=(bs t)[en]'(by rw[LEN.out];exact hlt)::(bs t).drop (en+1) from List.drop_eq_getElem_cons _]
    unfold nxt
    simp only[]
    rw[←hb1]
    have e1:(bs t1).takeWhile (fun c=>!decide (c=32))=bs x:=hx.symm
    have e2:(bs t1).dropWhile (fun c=>!decide (c=32))=(bs t).drop (en+1+x.size):=by
     have:=List.takeWhile_append_dropWhile (p:=fun c=>!decide (c=32)) (l:=bs t1)
     rw[e1] at this
     have e3:(bs t1).drop x.size=(bs t1).dropWhile (fun c=>!decide (c=32)):=by
      conv=>lhs;rw[←this]
      rw[List.drop_append,←hxl,List.drop_length,Nat.sub_self];rfl
     rw[←e3,hb1,List.drop_drop]
    rw[e1,e2])
   have hxt:x.size≤t.size:=by omega
   have HCUT:=Hd hcut
   clear hc4 hq hb1 hts hx hy hok hxs hcut ht1 hxl
   go_enter Tryz.func224,Tryz.ntmps224
   go_upto_region 1 with fail
   go_quiet (fail)
   obtain⟨w0,hw0⟩:∃w0,w0=w.drewN nq:=⟨_,rfl⟩
   have H0:Hid (WS w0 b t st en at_ 0):=Hd (by rw[hw0];exact H.out.below (Dr.below ⟨nq,rfl⟩))
   have F0:Hid (Fr1 b w w0):=Hd (by rw[hw0];exact Dr.fr ⟨nq,rfl⟩)
   rw[←hw0]
   clear hw0 hc0 hc1 hc2 hc4' hf1 H
   have hc2:w0.cell? ⟨b,2,none⟩=some (.int .i64 (en:Int)):=cell_of_row w0 b 2 _ _ _ H0.out.1
   have hc4:w0.cell? ⟨b,4,none⟩=some (.int .i64 0):=cell_of_row w0 b 4 _ _ _ H0.out.1
   have hc1:w0.cell? ⟨b,1,none⟩=some (.int .i64 (st:Int)):=cell_of_row w0 b 1 _ _ _ H0.out.1
   have hf1:w0.frozen? ⟨b,1,none⟩=false:=by have:=H0.out.1;simp[World.frozen?,this]
   go_upto_region 6 with fail
   obtain⟨w1,hw1⟩:∃w1,w1=w0.setCell ⟨b,1,none⟩ (.int .i64 ((en:Int)+1)):=⟨_,rfl⟩
   have H1:Hid (WS w1 b t (en+1) en at_ 0):=Hd (by rw[hw1];exact⟨Xd0 H0.out.1 1 _,H0.out.2⟩)
   have F1:Hid (Fr1 b w w1):=Hd (by rw[hw1];exact F0.out.trans (Fr1.setC _))
   rw[←hw1]
   clear hw1 hc1 hc2 hc4 hf1
   have hc0:w1.cell? ⟨b,0,none⟩=some (.string t):=cell_of_row w1 b 0 _ _ _ H1.out.1
   have hc1:w1.cell? ⟨b,1,none⟩=some (.int .i64 ((en:Int)+1)):=cell_of_row w1 b 1 _ _ _ H1.out.1
   have CUT:Hid (∀n,Calls Tryz.prog 67 #[.string t1,.string ⟨#[32]⟩] (w1.drewN n) fun e w'=>e=.returned (.tuple #[.string x,.string y,.bool ok])∧∃m,w'=w1.drewN m):=Hd (fun n=>
    (HCUT.out (w1.drewN n) ((Xbr HE.out hb9 F1.out).on (Dr.below ⟨n,rfl⟩)).mx).mono fun e w' ⟨h1,q,h2⟩=>⟨h1,n+q,by rw[h2,Xdx]⟩)
   go_quiet (first|(go_at_call 67;rw[show t.extract (en+1) t.size=t1 from HT.out.symm];exact CUT.out _))
   obtain⟨w2,hw2⟩:∃w2,w2=w1.drewN nq:=⟨_,rfl⟩
   have H2:Hid (WS w2 b t (en+1) en at_ 0):=Hd (by rw[hw2];exact H1.out.below (Dr.below ⟨nq,rfl⟩))
   have F2:Hid (Fr1 b w w2):=Hd (by rw[hw2];exact F1.out.trans (Dr.fr ⟨nq,rfl⟩))
   rw[←hw2]
   clear hw2 hc0 hc1
   have hc1:w2.cell? ⟨b,1,none⟩=some (.int .i64 ((en:Int)+1)):=cell_of_row w2 b 1 _ _ _ H2.out.1
   have hc2:w2.cell? ⟨b,2,none⟩=some (.int .i64 (en:Int)):=cell_of_row w2 b 2 _ _ _ H2.out.1
   have hf2:w2.frozen? ⟨b,2,none⟩=false:=by have:=H2.out.1;simp[World.frozen?,this]
   have H3:Hid (WS (w2.setCell ⟨b,2,none⟩ (.int .i64 ((en:Int)+1+(x.size:Int)))) b t (en+1) (en+1+x.size) at_ 0):=Hd ⟨Xd0 H2.out.1 2 _,EN.out⟩
   go_wp2_with fail
   go_ret2
   exact⟨x,true,en+1,en+1+x.size,at_,0,rfl,H3.out,F2.out.trans (Fr1.setC _),hxt,.inr ⟨rfl,rfl,rfl,DROP.out⟩⟩
 ·have hz:((er:Int)==0)=false:=Xak (by omega)
  have hz2:((er:Int) !=0)=true:=by simp[bne,hz]
  have HX:Hid (∀k,fe er (nxt ((bs t).drop en) k)=er):=Hd (fun k=>by unfold fe;rw[if_pos h0])
  have H0:=Hd h0
  clear h0
  go_enter Tryz.func224,Tryz.ntmps224
  go_upto_region 1 with fail
  go_quiet (fail)
  go_wp2_with fail
  go_ret2
  exact⟨⟨#[]⟩,false,st,en,at_,er,rfl,H.out.below (Dr.below ⟨nq,rfl⟩),Dr.fr ⟨nq,rfl⟩,Nat.zero_le _,.inl ⟨rfl,H0.out,HX.out⟩⟩
theorem Xv6 (c:Nat):∀l:List Nat,∀p∈spl c l,p.length≤l.length
 |[],p,h=>by simp[spl] at h;subst h;simp
 |x::t,p,h=>by
  have ih:=Xv6 c t
  simp only[spl] at h
  split at h
  ·rcases List.mem_cons.1 h with rfl|h
   ·simp
   ·have:=ih p h;simp;omega
  ·split at h
   ·rename_i e;exact absurd e (Xje c t)
   ·rename_i a r e
    rw[e] at ih
    rcases List.mem_cons.1 h with rfl|h
    ·have:=ih a (by simp);simp;omega
    ·have:=ih p (by simp[h]);simp;omega
theorem Xjf (c:Nat):∀l:List Nat,(spl c l).length≤l.length+1
 |[]=>by simp[spl]
 |x::t=>by
  have ih:=Xjf c t
  simp only[spl]
  split
  ·simp;omega
  ·split
   ·simp
   ·rename_i a r e;rw[e] at ih;simp at ih⊢;omega
def Xh2 (c:Nat) (s:ByteArray) (w:World) (e:Ending) (w':World):Prop:=
 ∃(v:Value) (gs:List ByteArray),e=.returned v∧gs.map bs=spl c (bs s)∧SRow w' v gs∧(∀g∈gs,g.size≤s.size)∧gs.length≤s.size+1∧w'.ownsRow w.heap.size 9 1 v gs.length (gs.map Value.string)∧Below w.heap.size w w'
theorem Xjd (s:ByteArray) (c:UInt8) (w:World) (hs:s.size≤1000000) (hE:Env w):
    Calls Tryz.prog 153 #[.string s,.string ⟨#[c]⟩] w (Xh2 c.toNat s w):=by
 obtain⟨m,hm⟩:=hE.mx
 refine(Xim s ⟨#[c]⟩ m w (by omega) hm (by simp[ByteArray.size])).mono fun e w' ⟨h1,h2⟩=>?_
 have hlen:=Lib.splitB_all ⟨#[c]⟩ (by simp[ByteArray.size]) 0 (Lib.countB s ⟨#[c]⟩) s rfl
 have hmap:(Lib.splitB ⟨#[c]⟩ 0 (Lib.countB s ⟨#[c]⟩) s).map bs=spl c.toNat (bs s):=by
  have h3:=Lib.splitB_data ⟨#[c]⟩ 0 (Lib.countB s ⟨#[c]⟩) s
  have h4:=Xlh c s.data.toList
  have e1:(Lib.splitB ⟨#[c]⟩ 0 (Lib.countB s ⟨#[c]⟩) s).map bs=((Lib.splitB ⟨#[c]⟩ 0 (Lib.countB s ⟨#[c]⟩) s).map (·.data.toList)).map (fun p=>p.map UInt8.toNat):=by
   rw[List.map_map];rfl
  rw[e1,h3]
  exact h4
 generalize hg:Lib.splitB ⟨#[c]⟩ 0 (Lib.countB s ⟨#[c]⟩) s=gs at h2 hlen hmap
 subst h2
 refine⟨_,gs,h1,hmap,⟨some ⟨w.heap.size,0,none⟩,gs.length,by rw[hlen],Nat.le_refl _,fun _=>⟨w.heap.size,0,rfl,by simp,fun j hj=>?_⟩⟩,?_,?_,?_,(Below.refl _ _).alloc (Nat.le_refl _) _⟩
 ·rw[Nat.zero_add,cell_of_row _ w.heap.size j _ 9 (0,0) (heap_alloc_new w _)]
  simp[hj]
 ·intro g hg'
  have:=Xv6 c.toNat (bs s) (bs g) (by rw[←hmap];exact List.mem_map_of_mem hg')
  rwa [Xaa,Xaa] at this
 ·have:=Xjf c.toNat (bs s)
  rw[←hmap,List.length_map,Xaa] at this
  exact this
 ·have:=Xjf c.toNat (bs s)
  rw[←hmap,List.length_map,Xaa] at this
  exact⟨by simp,.inr ⟨w.heap.size,gs.length,(gs.map Value.string).toArray,by rw[hlen],Nat.le_refl _,heap_alloc_new w _,Nat.le_refl _,by unfold maxLen;omega,by simp,by simp[List.take_of_length_le]⟩⟩
def Ygk (b:Bool) (w:World) (e:Ending) (w':World):Prop:=
 ∃n:Int,e=.returned (.int .i64 n)∧(b=true→0≤n)∧(b=false→n<0)∧Below w.heap.size w w'
def Xuc (g:ByteArray):Bool:=!Xei (bs g)
theorem Ycu {p:ByteArray→Bool} {l:List ByteArray} {k:Nat} (h:(l.take k).any p=false) (hk:l.length≤k):l.any p=false:=by rwa [List.take_of_length_le hk] at h
theorem Yct {p:ByteArray→Bool} {l:List ByteArray} {k:Nat} (hk:k<l.length) (h:p l[k]=true):l.any p=true:=by
 rw[List.any_eq_true];exact⟨_,List.getElem_mem hk,h⟩
theorem Xzf {p:ByteArray→Bool} {l:List ByteArray} {k:Nat} (h0:(l.take k).any p=false) (hk:k<l.length) (h:p l[k]=false):(l.take (k+1)).any p=false:=by
 rw[List.take_succ_eq_append_getElem hk,List.any_append,h0];simp[h]
set_option maxHeartbeats 1000000 in
theorem Yhu (w:World) (v:Value) (gs:List ByteArray) (hr:SRow w v gs) (hl:gs.length≤1000001) (hz:∀g∈gs,g.size≤1000000):
    Calls Tryz.prog 212 #[v,.func (.func 174) #[] #[]] w (Ygk (gs.any Xuc) w):=by
 obtain⟨n,hn⟩:∃n,n=gs.length:=⟨_,rfl⟩
 obtain⟨a,cap,rfl,hcap,hcells⟩:=hr
 rw[←hn] at hl hcap⊢
 have HC:=Hd hcells;have HN:=Hd hn;have HZ:=Hd hz
 clear hcells hn hz
 go_enter Tryz.func212,Tryz.ntmps212
 go_wp2_with fail
 go_loopg [8] n (fun k i wr=>∃j:Nat,j≤n∧k=n-j∧i=.int .i64 (j:Int)∧Hid ((gs.take j).any Xuc=false)∧Hid (Below w.heap.size w wr))
 case atStart=>exact⟨0,by omega,rfl,rfl,rfl,Hd (Below.refl _ _)⟩
 case round=>
  obtain⟨j,hj,rfl,rfl,ha,hb⟩:=hrel
  by_cases h:j<n
  ·have hjl:j<gs.length:=by rw[←HN.out];exact h
   obtain⟨b,off,rfl,hbl,hcl⟩:=HC.out (by intro e;rw[e] at hjl;simp at hjl)
   obtain⟨g,hg⟩:∃g,g=gs[j]:=⟨_,rfl⟩
   have hcc:wr.cell? ⟨b,off+j,none⟩=some (.string g):=by rw[hb.out.cell (p:=⟨b,off+j,none⟩) hbl,hg];exact hcl j hjl
   have hgz:g.size≤1000000:=by rw[hg];exact HZ.out _ (List.getElem_mem hjl)
   have C:=Hd (Xw9 g wr hgz)
   have HG:=Hd hg;have HJ:=Hd hjl
   obtain⟨p,hp⟩:∃p,p=!Xei (bs g):=⟨_,rfl⟩
   rw[←hp] at C
   have HP:Hid (Xuc g=p):=Hd hp.symm
   clear hg hcl hp hgz
   cases p
   ·go_wp2_with fail
    refine C.out.mono ?_
    rintro e w1 ⟨rfl,hb1⟩
    have B1:=Hd (hb.out.trans (hb1.mono hb.out.size))
    clear hb1 C hcc
    go_wp2_with fail
    go_roundg (n-(j+1))
    case measure=>omega
    case rel=>exact⟨j+1,by omega,rfl,by go_num,Hd (Xzf ha.out HJ.out (by rw[←HG.out];exact HP.out)),B1⟩
   ·go_wp2_with fail
    refine C.out.mono ?_
    rintro e w1 ⟨rfl,hb1⟩
    have B1:=Hd (hb.out.trans (hb1.mono hb.out.size))
    clear hb1 C hcc
    go_wp2_with fail
    go_ret
    exact⟨_,rfl,(fun _=>by omega),(fun h=>by rw[Yct HJ.out (by rw[←HG.out];exact HP.out)] at h;cases h),B1.out⟩
  ·go_wp2_with fail
   go_ret
   exact⟨_,rfl,(fun h'=>by rw[Ycu ha.out (by rw[←HN.out];omega)] at h';cases h'),(fun _=>by decide),hb.out⟩
theorem Yil (w:World) (v:Value) (gs:List ByteArray) (hr:SRow w v gs) (hl:gs.length≤1000001) (hz:∀g∈gs,g.size≤1000000):
    Calls Tryz.prog 173 #[v,.func (.func 174) #[] #[]] w fun e w'=>e=.returned (.bool (gs.any Xuc))∧Below w.heap.size w w':=by
 have C:=Hd (Yhu w v gs hr hl hz)
 obtain⟨b,hb⟩:∃b,b=gs.any Xuc:=⟨_,rfl⟩
 rw[←hb] at C⊢
 clear hb hl hr hz
 go_enter Tryz.func173,Tryz.ntmps173
 go_wp2_with fail
 refine C.out.mono ?_
 rintro e w' ⟨m,rfl,h1,h2,hb⟩
 have HB:=Hd hb
 clear hb
 cases b
 ·have h:=h2 rfl
  clear h1 h2 C
  go_wp2_with fail
  go_ret
  exact⟨Xa3 (by simp;omega),HB.out⟩
 ·have h:=h1 rfl
  clear h1 h2 C
  go_wp2_with fail
  go_ret
  exact⟨rfl,HB.out⟩
theorem Xw1 (s:ByteArray) (w:World) (hs:s.size≤1000000) (hE:Env w):
    Calls Tryz.prog 172 #[.string s] w (Xh2 46 s w):=by
 have S:=Hd (Xjd s 46 w hs hE)
 rw[show(46:UInt8).toNat=46 from rfl] at S
 clear hs hE
 go_enter Tryz.func172,Tryz.ntmps172
 go_wp2_with fail
 refine S.out.mono ?_
 rintro e w1 ⟨v,gs,rfl,h⟩
 have H:=Hd h
 clear h S
 go_wp2_with fail
 go_ret
 exact⟨v,gs,rfl,H.out⟩
theorem Xzd {gs:List ByteArray} {ls:List (List Nat)} (h:gs.map bs=ls):gs.any Xuc=ls.any (fun p=>!Xei p):=by
 subst h;rw[List.any_map];rfl
set_option maxHeartbeats 1000000 in
theorem Xlx (s:ByteArray) (w:World) (hs:s.size≤1000000) (hE:Env w):
    Calls Tryz.prog 135 #[.string s] w fun e w'=>e=.returned (.int .i64 (Xbg (bs s):Nat))∧Below w.heap.size w w':=by
 have P:=Hd (Xw1 s w hs hE)
 have LEN:=Hd (Xaa s)
 by_cases h80:80<s.size
 ·have N:Hid (Xbg (bs s)=5):=Hd (by unfold Xbg;rw[if_pos (by rw[LEN.out];exact h80)])
  clear hE P
  go_enter Tryz.func135,Tryz.ntmps135
  go_wp2_with fail
  go_ret
  exact⟨by rw[N.out];rfl,Below.refl _ _⟩
 ·have N:Hid (Xbg (bs s)=if(spl 46 (bs s)).any (fun p=>!Xei p)=true then 12 else if 10<(spl 46 (bs s)).length then 9 else 0):=Hd (by unfold Xbg;rw[if_neg (by rw[LEN.out];exact h80)])
  clear hE
  go_enter Tryz.func135,Tryz.ntmps135
  go_wp2_with fail
  refine P.out.mono ?_
  rintro e w1 ⟨v,gs,rfl,hm,hr,hz,hl,_,hb⟩
  have hv:∃a cap,v=.slice a gs.length cap:=by obtain⟨a,cap,h,_⟩:=hr;exact⟨a,cap,h⟩
  obtain⟨a,cap,rfl⟩:=hv
  have CF:=Hd (Yil w1 _ gs hr (by omega) (fun g hg=>by have:=hz g hg;omega))
  have HB:=Hd hb
  rw[Xzd hm] at CF
  have HL:Hid (gs.length=(spl 46 (bs s)).length):=Hd (by rw[←hm,List.length_map])
  obtain⟨n,hn⟩:∃n,n=gs.length:=⟨_,rfl⟩
  rw[←hn] at HL CF⊢
  obtain⟨q,hq⟩:∃q,q=(spl 46 (bs s)).any (fun p=>!Xei p):=⟨_,rfl⟩
  rw[←hq] at CF N
  have N2:Hid (Xbg (bs s)=if q=true then 12 else if 10<n then 9 else 0):=Hd (by rw[N.out,HL.out])
  clear hm hr hz hl hb P HL hn hq N
  go_wp2_with fail
  refine CF.out.mono ?_
  rintro e w2 ⟨rfl,hb2⟩
  have HB2:=Hd (HB.out.trans (hb2.mono HB.out.size))
  clear hb2 CF
  cases q
  ·by_cases h10:10<n
   ·go_wp2_with fail
    go_ret
    exact⟨by rw[N2.out,if_neg (by decide),if_pos h10];rfl,HB2.out⟩
   ·go_wp2_with fail
    go_ret
    exact⟨by rw[N2.out,if_neg (by decide),if_neg h10];rfl,HB2.out⟩
  ·go_wp2_with fail
   go_ret
   exact⟨by rw[N2.out];rfl,HB2.out⟩
theorem Xfj {a b:ByteArray} (h:bs a=bs b):a=b:=by rw[←Xds a,h,Xds]
theorem Yhn {x:ByteArray} {gs:List ByteArray}:bs x∈gs.map bs↔x∈gs:=
 ⟨fun h=>by obtain⟨y,hy,e⟩:=List.mem_map.1 h;rw[←Xfj e];exact hy,List.mem_map_of_mem⟩
theorem Xyx (w:World) (a:Option Addr) (n cap:Nat) (gs:List ByteArray) (x:ByteArray) (hn:n≤gs.length) (hl:gs.length≤1000000) (hc:gs≠[]→∃b off,a=some ⟨b,off,none⟩∧b<w.heap.size∧∀j (h:j<gs.length),w.cell? ⟨b,off+j,none⟩=some (.string gs[j])):
    Calls Tryz.prog 136 #[.slice a n cap,.string x] w fun e w'=>e=.returned (.bool (decide (bs x∈(gs.map bs).take n)))∧w=w':=by
 by_cases h0:n=0
 ·subst h0
  exact(Xc7 a cap x w).mono fun e w' h=>⟨by rw[h.1];simp,h.2.symm⟩
 ·obtain⟨b,off,rfl,hb,hcl⟩:=hc (by intro e;rw[e] at hn;simp at hn;omega)
  refine(Xee b off n cap gs x w hn (by omega) (fun j hj=>by rw[hcl j hj];simp[List.getD,hj])).mono fun e w' h=>⟨?_,h.2.symm⟩
  rw[h.1]
  have e:Lib.containsS (gs.take n) x=decide (bs x∈(gs.map bs).take n):=by rw[Bool.eq_iff_iff,Lib.containsS_iff,decide_eq_true_iff,←List.map_take,Yhn]
  rw[e]
theorem Xhs (f:List Nat→Nat) (d:Nat) (L:List (List Nat)) (j:Nat) (h:j<L.length):
    Xcz f d (L.take j) (L.drop j)=if f L[j]≠0 then f L[j] else if L[j]∈L.take j then d else Xcz f d (L.take (j+1)) (L.drop (j+1)):=by
 rw[List.drop_eq_getElem_cons h,Xcz,List.take_succ_eq_append_getElem h]
 simp only[List.contains_iff_mem]
set_option maxHeartbeats 1000000 in
theorem Xo9 (w:World) (v:Value) (gs:List ByteArray) (hr:SRow w v gs) (hl:gs.length≤1000000) (hz:∀g∈gs,g.size≤1000000) (hE:Env w):
    Calls Tryz.prog 94 #[v] w fun e w'=>e=.returned (.int .i64 (Xcc Xbg (gs.map bs):Nat))∧Below w.heap.size w w':=by
 obtain⟨n,hn⟩:∃n,n=gs.length:=⟨_,rfl⟩
 obtain⟨a,cap,rfl,hcap,hcells⟩:=hr
 rw[←hn] at hcap hl⊢
 have HN:=Hd hn
 have HC:=Hd hcells;have HZ:=Hd hz;have HE:=Hd hE
 by_cases h20:20<n
 ·have F:Hid (Xcc Xbg (gs.map bs)=9):=Hd (by unfold Xcc;rw[if_pos (by rw[List.length_map,←hn];exact h20)])
  clear hcells hn hz hE
  go_enter Tryz.func94,Tryz.ntmps94
  go_wp2_with fail
  go_ret
  exact⟨by rw[F.out];rfl,Below.refl _ _⟩
 ·have F:Hid (Xcc Xbg (gs.map bs)=Xcz Xbg 7 ((gs.map bs).take 0) ((gs.map bs).drop 0)):=Hd (by unfold Xcc;rw[if_neg (by rw[List.length_map,←hn];exact h20)];rfl)
  clear hcells hn hz hE
  go_enter Tryz.func94,Tryz.ntmps94
  go_wp2_with fail
  go_loopg [3,4,5,11] n (fun k s3 s4 s5 i wr=>∃j:Nat,j≤n∧k=n-j∧i=.int .i64 (j:Int)∧Hid (Xcc Xbg (gs.map bs)=Xcz Xbg 7 ((gs.map bs).take j) ((gs.map bs).drop j))∧Hid (Below w.heap.size w wr))
  case atStart=>exact⟨0,by omega,rfl,rfl,F,Hd (Below.refl _ _)⟩
  case round=>
   obtain⟨j,hj,rfl,rfl,ha,hb⟩:=hrel
   by_cases h:j<n
   ·have hjl:j<gs.length:=by rw[←HN.out];exact h
    obtain⟨b,off,rfl,hbl,hcl⟩:=HC.out (by intro e;rw[e] at hjl;simp at hjl)
    obtain⟨g,hg⟩:∃g,g=gs[j]:=⟨_,rfl⟩
    have hcc:wr.cell? ⟨b,off+j,none⟩=some (.string g):=by rw[hb.out.cell (p:=⟨b,off+j,none⟩) hbl,hg];exact hcl j hjl
    have hgz:g.size≤1000000:=by rw[hg];exact HZ.out _ (List.getElem_mem hjl)
    have C:=Hd (Xlx g wr hgz (HE.out.on hb.out))
    have ST:=Hd (Xhs Xbg 7 (gs.map bs) j (by simpa using hjl))
    simp only[List.getElem_map,←hg] at ST
    have KC:Hid (∀w',Below wr.heap.size wr w'→Calls Tryz.prog 136 #[.slice (some ⟨b,off,none⟩) j cap,.string g] w' fun e w''=>e=.returned (.bool (decide (bs g∈(gs.map bs).take j)))∧w'=w''):=Hd (fun w' hw=>
     Xyx w' _ j cap gs g (by omega) (by rw[←HN.out];omega) (fun _=>⟨b,off,rfl,Nat.lt_of_lt_of_le hbl (Nat.le_trans hb.out.size hw.size),fun k hk=>((hb.out.trans (hw.mono hb.out.size)).cell (p:=⟨b,off+k,none⟩) hbl).trans (hcl k hk)⟩))
    obtain⟨m,hm⟩:∃m,m=Xbg (bs g):=⟨_,rfl⟩
    rw[←hm] at C ST
    obtain⟨q,hq⟩:∃q,q=decide (bs g∈(gs.map bs).take j):=⟨_,rfl⟩
    rw[←hq] at KC
    have HQ:=Hd hq
    clear hg hcl hm hgz hq
    go_wp2_with fail
    refine C.out.mono ?_
    rintro e w1 ⟨rfl,hb1⟩
    have B1:=Hd hb1
    have B2:=Hd (hb.out.trans (hb1.mono hb.out.size))
    have K1:=Hd (KC.out w1 hb1)
    clear hb1 C hcc KC
    by_cases m0:m=0
    ·have q0:((m:Int) !=0)=false:=Xat (by omega)
     have M0:=Hd m0
     clear m0
     cases q
     ·have ST2:Hid (Xcc Xbg (gs.map bs)=Xcz Xbg 7 ((gs.map bs).take (j+1)) ((gs.map bs).drop (j+1))):=Hd (by
         rw[ha.out,ST.out,if_neg (by rw[M0.out];decide),if_neg (of_decide_eq_false HQ.out.symm)])
      go_wp2_with (go_at_call 136;refine K1.out.mono ?_;rintro e w' ⟨rfl,rfl⟩)
      go_roundg (n-(j+1))
      case measure=>omega
      case rel=>exact⟨j+1,by omega,rfl,by go_num,ST2,B2⟩
     ·have ST2:Hid (Xcc Xbg (gs.map bs)=7):=Hd (by
         rw[ha.out,ST.out,if_neg (by rw[M0.out];decide),if_pos (of_decide_eq_true HQ.out.symm)])
      go_wp2_with (go_at_call 136;refine K1.out.mono ?_;rintro e w' ⟨rfl,rfl⟩)
      go_ret
      exact⟨by rw[ST2.out];rfl,B2.out⟩
    ·have q0:((m:Int) !=0)=true:=Xam (by omega)
     have ST2:Hid (Xcc Xbg (gs.map bs)=m):=Hd (by rw[ha.out,ST.out,if_pos m0])
     clear m0
     go_wp2_with fail
     go_ret
     exact⟨by rw[ST2.out];rfl,B2.out⟩
   ·obtain rfl:j=n:=by omega
    have ST2:Hid (Xcc Xbg (gs.map bs)=0):=Hd (by rw[ha.out,List.drop_of_length_le (by rw[List.length_map,HN.out];exact Nat.le_refl _)];rfl)
    go_wp2_with fail
    go_ret
    exact⟨by rw[ST2.out];rfl,hb.out⟩
def StL (t:ByteArray) (en er en' er':Nat) (f:List Nat→Nat):Prop:=
 ∀k:List Nat→Nat,fe er (nxt ((bs t).drop en) fun x T=>fe (f x) (k T))=fe er' (k ((bs t).drop en'))
theorem StL.no {t:ByteArray} {en er en' er':Nat} {f:List Nat→Nat} (h:er'≠0) (hk:∀k,fe er (nxt ((bs t).drop en) k)=er'):StL t en er en' er' f:=by
 intro k
 rw[hk];unfold fe;rw[if_pos h]
theorem StL.yes {t:ByteArray} {en en':Nat} {f:List Nat→Nat} {x:List Nat} (hk:∀k,nxt ((bs t).drop en) k=k x ((bs t).drop en')):StL t en 0 en' (f x) f:=by
 intro k
 rw[hk];rfl
def Xlc (w:World) (b:Nat) (t:ByteArray) (en er:Nat) (f:List Nat→Nat) (R:Value→Prop) (e:Ending) (w':World):Prop:=
 ∃(v:Value) (st' en':Nat) (a:Int) (er':Nat),e=.returned v∧R v∧WS w' b t st' en' a er'∧Fr1 b w w'∧StL t en er en' er' f
theorem Xke (w:World) (b:Nat) (t:ByteArray) (st en:Nat) (at_:Int) (er:Nat) (h:WS w b t st en at_ er) (hE:Env w) (hb9:9≤b) (ht:t.size≤1000000):
    Calls Tryz.prog 187 #[.pointer (some ⟨b,0,none⟩)] w (Xlc w b t en er Xhw fun v=>∃s,v=.string s∧s.size≤t.size):=by
 have NX:=Hd (Xfo w b t st en at_ er h hE hb9 ht)
 have HE:=Hd hE
 clear h hE
 go_enter Tryz.func187,Tryz.ntmps187
 go_wp2_with fail
 refine NX.out.mono ?_
 rintro e w1 ⟨x,ok,st',en',a,er',rfl,h1,f1,hx,h⟩
 have H1:=Hd h1;have F1:=Hd f1
 have E1:=Hd (Xbr HE.out hb9 f1)
 clear NX h1 f1
 rcases h with⟨rfl,hne,hk⟩|⟨rfl,rfl,rfl,hk⟩
 ·have SL:Hid (StL t en er en' er' Xhw):=Hd (StL.no hne hk)
  clear hne hk
  go_wp2_with fail
  go_ret
  exact⟨_,st',en',a,er',rfl,⟨x,rfl,hx⟩,H1.out,F1.out,SL.out⟩
 ·have SL:Hid (StL t en 0 en' (Xhw (bs x)) Xhw):=Hd (StL.yes hk)
  have GC:=Hd (Xlx x w1 (by omega) E1.out)
  have GF:Hid (Xhw (bs x)=if Xbg (bs x)=0 then 0 else 12):=Hd rfl
  obtain⟨m,hm⟩:∃m,m=Xbg (bs x):=⟨_,rfl⟩
  rw[←hm] at GC GF
  clear hk hm
  by_cases m0:m=0
  ·have q0:((m:Int) !=0)=false:=by rw[m0];rfl
   have SL2:Hid (StL t en 0 en' 0 Xhw):=Hd (by have:=SL.out;rw[GF.out,if_pos m0] at this;exact this)
   clear m0 SL GF
   go_wp2_with fail
   refine GC.out.mono ?_
   rintro e w2 ⟨rfl,hb2⟩
   have H2:=Hd (H1.out.below hb2);have F2:=Hd (F1.out.trans (Fr1.of_below hb2))
   clear hb2 GC
   go_wp2_with fail
   go_ret
   exact⟨_,st',en',a,0,rfl,⟨x,rfl,hx⟩,H2.out,F2.out,SL2.out⟩
  ·have q0:((m:Int) !=0)=true:=Xam (by omega)
   have SL2:Hid (StL t en 0 en' 12 Xhw):=Hd (by have:=SL.out;rw[GF.out,if_neg m0] at this;exact this)
   clear m0 SL GF
   go_wp2_with fail
   refine GC.out.mono ?_
   rintro e w2 ⟨rfl,hb2⟩
   have h2:=H1.out.below hb2
   have hc1:w2.cell? ⟨b,1,none⟩=some (.int .i64 (st':Int)):=cell_of_row w2 b 1 _ _ _ h2.1
   have F2:=Hd (F1.out.trans (Fr1.of_below hb2))
   have FL:=Hd (Xb7 w2 b t st' en' a 0 h2 (st':Int) 12)
   clear hb2 GC h2
   go_wp2_with fail
   refine FL.out.mono ?_
   rintro e w3 ⟨⟨v,rfl⟩,⟨a',h3⟩,f3⟩
   have H3:Hid (WS w3 b t st' en' a' 12):=Hd h3;have F3:=Hd (F2.out.trans f3)
   clear FL h3 f3 hc1
   go_wp2_with fail
   go_ret
   exact⟨_,st',en',a',12,rfl,⟨x,rfl,hx⟩,H3.out,F3.out,SL2.out⟩
theorem Xhp (w:World) (b:Nat) (t:ByteArray) (st en:Nat) (at_:Int) (er:Nat) (h:WS w b t st en at_ er) (hE:Env w) (hb9:9≤b) (ht:t.size≤1000000) (lo hi:Nat) (hlo:lo≤1000000) (hhi:hi≤1000000):
    Calls Tryz.prog 189 #[.pointer (some ⟨b,0,none⟩),.int .i64 (lo:Int),.int .i64 (hi:Int)] w (Xlc w b t en er (Xe1 lo hi) fun v=>∃n:Int,v=.int .i64 n):=by
 have NX:=Hd (Xfo w b t st en at_ er h hE hb9 ht)
 have HE:=Hd hE
 clear h hE
 go_enter Tryz.func189,Tryz.ntmps189
 go_wp2_with fail
 refine NX.out.mono ?_
 rintro e w1 ⟨x,ok,st',en',a,er',rfl,h1,f1,hx,h⟩
 have hc1:w1.cell? ⟨b,1,none⟩=some (.int .i64 (st':Int)):=cell_of_row w1 b 1 _ _ _ h1.1
 have H1:=Hd h1;have F1:=Hd f1
 clear NX h1 f1
 rcases h with⟨rfl,hne,hk⟩|⟨rfl,rfl,rfl,hk⟩
 ·have SL:Hid (StL t en er en' er' (Xe1 lo hi)):=Hd (StL.no hne hk)
  clear hne hk
  go_wp2_with fail
  go_ret
  exact⟨_,st',en',a,er',rfl,⟨_,rfl⟩,H1.out,F1.out,SL.out⟩
 ·have SL:Hid (StL t en 0 en' (Xe1 lo hi (bs x)) (Xe1 lo hi)):=Hd (StL.yes hk)
  have DC:=Hd (Xqz x w1 (by omega))
  have FL:=Hd (fun n=>Xb7 w1 b t st' en' a 0 H1.out (st':Int) n)
  have NF:Hid (Xe1 lo hi (bs x)=match Xkx (bs x) with|none=>3|some n=>if n<lo∨hi<n then 2 else 0):=Hd rfl
  clear hk
  cases hp:Xkx (bs x) with
  |none=>
   have SL2:Hid (StL t en 0 en' 3 (Xe1 lo hi)):=Hd (by have:=SL.out;rw[NF.out,hp] at this;exact this)
   clear SL NF
   go_wp2_with fail
   refine DC.out.mono ?_
   rintro e w2 ⟨he,rfl⟩
   rw[hp] at he
   obtain rfl:=he
   clear DC hp
   go_wp2_with fail
   refine(FL.out 3).mono ?_
   rintro e w3 ⟨⟨v,rfl⟩,⟨a',h3⟩,f3⟩
   have H3:Hid (WS w3 b t st' en' a' 3):=Hd h3;have F3:=Hd (F1.out.trans f3)
   clear FL h3 f3 hc1
   go_wp2_with fail
   go_ret
   exact⟨_,st',en',a',3,rfl,⟨_,rfl⟩,H3.out,F3.out,SL2.out⟩
  |some n=>
   by_cases hb:n<lo∨hi<n
   ·have SL2:Hid (StL t en 0 en' 2 (Xe1 lo hi)):=Hd (by have:=SL.out;rw[NF.out,hp] at this;simp only[if_pos hb] at this;exact this)
    clear SL NF
    go_wp2_with fail
    refine DC.out.mono ?_
    rintro e w2 ⟨he,rfl⟩
    rw[hp] at he
    obtain rfl:=he
    clear DC hp
    by_cases hl:n<lo
    ·clear hb
     go_wp2_with fail
     refine(FL.out 2).mono ?_
     rintro e w3 ⟨⟨v,rfl⟩,⟨a',h3⟩,f3⟩
     have H3:Hid (WS w3 b t st' en' a' 2):=Hd h3;have F3:=Hd (F1.out.trans f3)
     clear FL h3 f3 hc1
     go_wp2_with fail
     go_ret
     exact⟨_,st',en',a',2,rfl,⟨_,rfl⟩,H3.out,F3.out,SL2.out⟩
    ·have hl2:hi<n:=by omega
     clear hb
     go_wp2_with fail
     refine(FL.out 2).mono ?_
     rintro e w3 ⟨⟨v,rfl⟩,⟨a',h3⟩,f3⟩
     have H3:Hid (WS w3 b t st' en' a' 2):=Hd h3;have F3:=Hd (F1.out.trans f3)
     clear FL h3 f3 hc1
     go_wp2_with fail
     go_ret
     exact⟨_,st',en',a',2,rfl,⟨_,rfl⟩,H3.out,F3.out,SL2.out⟩
   ·have SL2:Hid (StL t en 0 en' 0 (Xe1 lo hi)):=Hd (by have:=SL.out;rw[NF.out,hp] at this;simp only[if_neg hb] at this;exact this)
    have hl:¬n<lo:=by omega
    have hl2:¬hi<n:=by omega
    clear SL NF hb
    go_wp2_with fail
    refine DC.out.mono ?_
    rintro e w2 ⟨he,rfl⟩
    rw[hp] at he
    obtain rfl:=he
    clear DC hp
    go_wp2_with fail
    go_ret
    exact⟨_,st',en',a,0,rfl,⟨_,rfl⟩,H1.out,F1.out,SL2.out⟩
end Go.Proofs.YtohmdledkhgdaaaGreatDoor
