/- bulletinref03: lead, least, most, Begins, First, Control. -/
import Derived.Test.YtohmdledkhgdaaaGreatDoorPa30
namespace Go.Proofs.YtohmdledkhgdaaaGreatDoor
open Go.RowKit
set_option linter.unusedVariables false
set_option maxRecDepth 100000
theorem Ybm (w:World) (c:Nat) (hc:c<256):Calls Tryz.prog 205 #[.int .u8 (c:Int)] w fun e w'=>e=.returned (.tuple #[.int .i64 (ldN c:Int),.int .i64 (ldV c:Int)])∧w=w':=by
 have hk:c<128∨(128≤c∧c<192)∨(192≤c∧c<224)∨(224≤c∧c<240)∨(240≤c∧c<248)∨248≤c:=by omega
 have e0:ldN c=if c<128 then 1 else if 192≤c∧c<224 then 2 else if 224≤c∧c<240 then 3 else if 240≤c∧c<248 then 4 else 0:=rfl
 have e1:ldV c=if c<128 then c else if 192≤c∧c<224 then c-192 else if 224≤c∧c<240 then c-224 else if 240≤c∧c<248 then c-240 else 0:=rfl
 have E0:=Hd e0;have E1:=Hd e1
 clear e0 e1
 rcases hk with h|⟨h,h2⟩|⟨h,h2⟩|⟨h,h2⟩|⟨h,h2⟩|h
 all_goals
  go_enter Tryz.func205,Tryz.ntmps205
  go_wp2_with fail
  go_ret2
  refine⟨?_,rfl⟩
  rw[E0.out,E1.out]
  first
   |rw[if_pos (by omega),if_pos (by omega)];rfl
   |rw[if_neg (by omega),if_pos (by omega),if_neg (by omega),if_pos (by omega)];simp;omega
   |rw[if_neg (by omega),if_neg (by omega),if_pos (by omega),if_neg (by omega),if_neg (by omega),if_pos (by omega)];simp;omega
   |rw[if_neg (by omega),if_neg (by omega),if_neg (by omega),if_pos (by omega),if_neg (by omega),if_neg (by omega),if_neg (by omega),if_pos (by omega)];simp;omega
   |rw[if_neg (by omega),if_neg (by omega),if_neg (by omega),if_neg (by omega),if_neg (by omega),if_neg (by omega),if_neg (by omega),if_neg (by omega)];rfl
theorem Xxg (w:World) (n:Nat) (hn:n≤4):Calls Tryz.prog 206 #[.int .i64 (n:Int)] w fun e w'=>e=.returned (.int .i64 (Xg5 n:Int))∧Below w.heap.size w w':=by
 rcases(by omega:n=0∨n=1∨n=2∨n=3∨n=4) with rfl|rfl|rfl|rfl|rfl
 all_goals
  go_enter Tryz.func206,Tryz.ntmps206
  go_wp2_with fail
  go_ret
  exact⟨rfl,(Below.refl _ _).alloc (Nat.le_refl _) _⟩
theorem Ybd (w:World) (n:Nat) (hn:n≤4):Calls Tryz.prog 207 #[.int .i64 (n:Int)] w fun e w'=>e=.returned (.int .i64 (Xmt n:Int))∧Below w.heap.size w w':=by
 rcases(by omega:n=0∨n=1∨n=2∨n=3∨n=4) with rfl|rfl|rfl|rfl|rfl
 all_goals
  go_enter Tryz.func207,Tryz.ntmps207
  go_wp2_with fail
  go_ret
  exact⟨rfl,(Below.refl _ _).alloc (Nat.le_refl _) _⟩
theorem Xsa (w:World) (n:Nat):Calls Tryz.prog 85 #[.int .i64 (n:Int)] w fun e w'=>e=.returned (.bool (Xs6 n))∧w=w':=by
 obtain⟨b,hb⟩:∃b,b=Xs6 n:=⟨_,rfl⟩
 rw[←hb]
 have HB:=Hd hb
 clear hb
 rcases(by omega:n<32∨(32≤n∧n<127)∨(127≤n∧n≤159)∨(n=8232)∨(n=8233)∨(159<n∧n≠8232∧n≠8233)) with h|⟨h,h2⟩|⟨h,h2⟩|rfl|rfl|⟨h,h2,h3⟩
 all_goals
  try have q1:((n:Int)==8232)=false:=Xak (by omega)
  try have q2:((n:Int)==8233)=false:=Xak (by omega)
  go_enter Tryz.func85,Tryz.ntmps85
  go_wp2_with fail
  go_ret
  exact⟨Xa3 (by rw[HB.out,Bool.eq_iff_iff];simp[Xs6];try omega),rfl⟩
theorem Xgs (s:ByteArray) (w:World) (q:Int) (k:Nat) (hq:q=(k:Int)) (hk:k<s.size) (x:Nat) (hx:x=(bs s).getD k 0):
    (Instr.index 9 (.string s) (.int .i64 q)).run Tryz.prog w=.ok (.int .u8 (x:Int)) w:=by
 rw[Xa7 9 Tryz.underlying9 s .i64 q k hq hk,hx]
def Xti (l:List Nat) (w:World) (e:Ending) (w':World):Prop:=
 ∃n v:Nat,e=.returned (.tuple #[.bool (bgB l),.int .i64 (n:Int),.int .i64 (v:Int)])∧(bgB l=true→n=ldN (l.getD 0 0)∧v=bgV l l.length)∧Below w.heap.size w w'
set_option maxHeartbeats 2000000 in
theorem Xh0 (s:ByteArray) (w:World) (h0:0<s.size) (h4:s.size≤4):
    Calls Tryz.prog 164 #[.string s] w (Xti (bs s) w):=by
 obtain⟨c,hc⟩:∃c,c=(bs s).getD 0 0:=⟨_,rfl⟩
 have hc2:c<256:=by rw[hc];exact Xa8 s 0
 have x0:=Xzu s c hc h0
 obtain⟨n,hn⟩:∃n,n=ldN c:=⟨_,rfl⟩
 obtain⟨v0,hv0⟩:∃v,v=ldV c:=⟨_,rfl⟩
 have hn4:n≤4:=by rw[hn];unfold ldN;(repeat' split)<;>omega
 have hv4:v0<128:=by rw[hv0];unfold ldV;(repeat' split)<;>omega
 have L0:=Hd (Ybm · c hc2)
 rw[←hn,←hv0] at L0
 obtain⟨B,hB⟩:∃B,B=bgB (bs s):=⟨_,rfl⟩
 have HB:Hid (B=(decide (n≠0)&&decide (s.size≤n)&&bgC (bs s) s.size&&!(decide (55296≤max (bgV (bs s) s.size*64^(n-s.size)) (Xg5 n))&&decide (min ((bgV (bs s) s.size+1)*64^(n-s.size)-1) (Xmt n)≤57343))&&decide (max (bgV (bs s) s.size*64^(n-s.size)) (Xg5 n)≤min ((bgV (bs s) s.size+1)*64^(n-s.size)-1) (Xmt n)))):=Hd (by
  rw[hB];unfold bgB Yf8 Yf9;rw[←hc,←hn,Xaa])
 have FIN:Hid (∀(b:Bool) (a v:Nat) (w':World),b=B→(B=true→a=n∧v=bgV (bs s) s.size)→Below w.heap.size w w'→Xti (bs s) w (.returned (.tuple #[.bool b,.int .i64 (a:Int),.int .i64 (v:Int)])) w'):=Hd (by
  rintro b a v w' rfl h1 h2
  exact⟨a,v,by rw[hB],fun h=>by rw[←hc,←hn,Xaa];exact h1 (hB.trans h),h2⟩)
 have V1:Hid (bgV (bs s) 1=v0):=Hd (by rw[Yf7,←hc,←hv0])
 clear hn hv0 hB hc hc2
 by_cases n0:n=0
 ·have z1:((n:Int)==0)=true:=Xa6 (by omega)
  go_enter Tryz.func164,Tryz.ntmps164
  go_wp2_with (go_at_call 205;refine(L0.out _).mono ?_;rintro e w' ⟨rfl,rfl⟩)
  go_ret3
  exact FIN.out false 0 0 _ (by rw[HB.out];simp[n0]) (fun h=>by rw[HB.out] at h;simp[n0] at h) (Below.refl _ _)
 have z1:((n:Int)==0)=false:=Xak (by omega)
 by_cases hgt:n<s.size
 ·go_enter Tryz.func164,Tryz.ntmps164
  go_wp2_with (go_at_call 205;refine(L0.out _).mono ?_;rintro e w' ⟨rfl,rfl⟩)
  go_ret3
  have e1:decide (s.size≤n)=false:=by simp;omega
  exact FIN.out false 0 0 _ (by rw[HB.out,e1];simp) (fun h=>by rw[HB.out,e1] at h;simp at h) (Below.refl _ _)
 go_enter Tryz.func164,Tryz.ntmps164
 go_wp2_with (go_at_call 205;refine(L0.out _).mono ?_;rintro e w' ⟨rfl,rfl⟩)
 go_loopg [6,7] s.size (fun k v i wr=>∃j vv:Nat,1≤j∧j≤s.size∧k=s.size+1-j∧i=.int .i64 (j:Int)∧v=.int .i64 (vv:Int)∧Hid (vv=bgV (bs s) j)∧Hid (bgC (bs s) j=true)∧((j=1∧vv<128)∨(j=2∧vv<8192)∨(j=3∧vv<524288)∨(j=4∧vv<33554432))∧Hid (Dr w wr))
 case atStart=>exact⟨1,v0,by omega,by omega,by omega,rfl,rfl,Hd V1.out.symm,Hd (Yga _),by omega,Hd (Dr.refl _)⟩
 case round=>
  obtain⟨j,vv,j1,j2,rfl,rfl,rfl,hv,hcc,hd,hdr⟩:=hrel
  have vlt:vv<33554432:=by omega
  by_cases hlt:j<s.size
  ·obtain⟨x,hx⟩:∃x,x=(bs s).getD j 0:=⟨_,rfl⟩
   have hx2:x<256:=by rw[hx];exact Xa8 s j
   have y1:=fun w=>Xgs s w j j rfl hlt x hx
   have HX:=Hd hx
   clear hx
   by_cases hlo:x<128
   ·go_wp2_with fail
    go_ret3
    have e1:=Xs9 (bs s) j j1 (by rw[Xaa];exact hlt) (by rw[←HX.out];omega)
    rw[Xaa] at e1
    exact FIN.out false 0 0 _ (by rw[HB.out,e1];simp) (fun h=>by rw[HB.out,e1] at h;simp at h) (Dr.below (by(first|exact hdr.out|exact hdr.out.drewN _)))
   by_cases hhi:191<x
   ·go_wp2_with fail
    go_ret3
    have e1:=Xs9 (bs s) j j1 (by rw[Xaa];exact hlt) (by rw[←HX.out];omega)
    rw[Xaa] at e1
    exact FIN.out false 0 0 _ (by rw[HB.out,e1];simp) (fun h=>by rw[HB.out,e1] at h;simp at h) (Dr.below (by(first|exact hdr.out|exact hdr.out.drewN _)))
   go_wp2_with fail
   go_roundg (s.size+1-(j+1))
   case measure=>omega
   case rel=>exact⟨j+1,64*vv+(x-128),by omega,by omega,rfl,by go_num,by go_num,Hd (by rw[Ycn _ _ j1 (by rw[Xaa];exact hlt),←HX.out,hv.out]),Hd (by rw[Yco _ _ j1 (by rw[Xaa];exact hlt),←HX.out,hcc.out];simp;omega),by omega,(by(first|exact hdr|exact Hd (hdr.out.drewN _)))⟩
  ·obtain rfl:j=s.size:=by omega
   have d0:(vv<128*64^3):=by omega
   clear d0
   go_wp2_with fail
   go_loopg [8,9,10] n (fun k lo hi i wr=>∃q a b:Nat,q+s.size≤n∧k=n-q∧i=.int .i64 ((s.size+q:Nat):Int)∧lo=.int .i64 (a:Int)∧hi=.int .i64 (b:Int)∧Hid (a=vv*64^q)∧Hid (b+1=(vv+1)*64^q)∧((q=0∧b<33554432)∨(q=1∧b<2147483648)∨(q=2∧b<137438953472)∨(q=3∧b<8796093022208))∧a≤b∧Hid (Dr w wr))
   case atStart=>exact⟨0,vv,vv,by omega,by omega,by go_num,rfl,rfl,Hd (by simp),Hd (by simp),by omega,by omega,(by(first|exact hdr|exact Hd (hdr.out.drewN _)))⟩
   case round=>
    obtain⟨q,a,b,hq,rfl,rfl,rfl,rfl,ha,hb,hbd,hab,hdr2⟩:=hrel
    have blt:b<8796093022208:=by omega
    by_cases hql:q+s.size<n
    ·go_wp2_with fail
     go_roundg (n-(q+1))
     case measure=>omega
     case rel=>exact⟨q+1,64*a,64*b+63,by omega,rfl,by go_num,by go_num,by go_num,Hd (by rw[ha.out,Nat.pow_succ,Nat.mul_comm 64 (vv*64^q),Nat.mul_assoc]),Hd (by rw[Nat.pow_succ,←Nat.mul_assoc,←hb.out];omega),by omega,by omega,(by(first|exact hdr2|exact Hd (hdr2.out.drewN _)))⟩
    ·have hqe:q=n-s.size:=by omega
     have LE:=Hd (Xxg · n hn4)
     have MO:=Hd (Ybd · n hn4)
     obtain⟨lo4,hlo4⟩:∃x,x=Xg5 n:=⟨_,rfl⟩
     obtain⟨hi4,hhi4⟩:∃x,x=Xmt n:=⟨_,rfl⟩
     rw[←hlo4] at LE HB
     rw[←hhi4] at MO HB
     have HB2:Hid (B=(!(decide (55296≤max a lo4)&&decide (min b hi4≤57343))&&decide (max a lo4≤min b hi4))):=Hd (by
      rw[HB.out,←hqe,hcc.out,←hv.out,←ha.out,←hb.out,Nat.add_sub_cancel]
      rw[decide_eq_true n0,decide_eq_true (show s.size≤n by omega)]
      simp)
     have HV:=Hd hv.out.symm
     clear HB hlo4 hhi4 ha hb hcc hv V1 L0 x0 hd hdr hbd
     go_wp2_with fail
     refine(LE.out _).mono ?_
     rintro e w2 ⟨rfl,hb2⟩
     have D2:=Hd (hb2)
     clear hb2
     by_cases hm:a<lo4
     all_goals
      go_wp2_with fail
      refine(MO.out _).mono ?_
      rintro e w3 ⟨rfl,hb3⟩
      have BW:=Dr.below hdr2.out
      have D3:=Hd (BW.trans ((D2.out.trans (hb3.mono D2.out.size)).mono BW.size))
      clear BW
      clear hb3 D2
      rcases Nat.lt_trichotomy b hi4 with hm2|hm2|hm2
      all_goals
       go_wp2_with fail
       all_goals
        go_ret3
        first
         |exact FIN.out true n vv _ (by rw[HB2.out];simp;omega) (fun _=>⟨rfl,HV.out.symm⟩) D3.out
         |exact FIN.out false 0 0 _ (by rw[HB2.out];simp;omega) (fun h=>by rw[HB2.out] at h;simp at h;omega) D3.out
def Ygl (l:List Nat) (w:World) (e:Ending) (w':World):Prop:=
 ∃r n er:Nat,e=.returned (.tuple #[.int .i64 (r:Int),.int .i64 (n:Int),.int .i64 (er:Int)])∧(rn l≠0→r=cpt l∧n=rn l∧er=0)∧(rn l=0→er≠0)∧Below w.heap.size w w'
set_option maxHeartbeats 2000000 in
theorem Xyd (s:ByteArray) (w:World) (h0:0<s.size) (hs:s.size≤maxLen):
    Calls Tryz.prog 128 #[.string s] w (Ygl (bs s) w):=by
 unfold maxLen at hs
 obtain⟨c,hc⟩:∃c,c=(bs s).getD 0 0:=⟨_,rfl⟩
 have hc2:c<256:=by rw[hc];exact Xa8 s 0
 have b1:bs (s.extract 0 1)=[c]:=by
  rw[Yf4,hc]
  have:0<(bs s).length:=by rw[Xaa];exact h0
  cases h:bs s with
  |nil=>rw[h] at this;cases this
  |cons x l=>simp
 have z1:(s.extract 0 1).size=1:=by rw[ByteArray.size_extract];omega
 have C1:=Hd (Xh0 (s.extract 0 1) w (by omega) (by omega))
 rw[b1] at C1
 obtain⟨n,hn⟩:∃n,n=Xf2 c:=⟨_,rfl⟩
 have hn4:n≤4:=by rw[hn];exact Xjc c
 obtain⟨o1,o2⟩:=Yis c hc2
 have HN:n=Xf2 ((bs s).getD 0 0):=by rw[hn,hc]
 by_cases n0:n=0
 ·have R0:Hid (rn (bs s)=0):=Hd (Yao _ (by rw[←HN];exact n0))
  have B1:bgB [c]=false:=by rw[o1,←hn,n0];rfl
  clear hn HN o1 o2 hc b1 z1
  go_enter Tryz.func128,Tryz.ntmps128
  go_wp2_with fail
  refine C1.out.mono ?_
  rintro e w1 ⟨a,b,rfl,hx,hb⟩
  rw[B1]
  have D1:=Hd hb
  clear hb hx C1 B1
  go_wp2_with fail
  go_ret3
  exact⟨0,0,6,rfl,(fun h=>absurd R0.out h),(fun _=>by decide),D1.out⟩
 have B1:bgB [c]=true:=by rw[o1,←hn];exact decide_eq_true n0
 have L1:ldN c=n:=by rw[o2 (by rw[←hn];exact n0),hn]
 by_cases hl:n≤s.size
 ·have z2:(s.extract 0 n).size=n:=by rw[ByteArray.size_extract];omega
  have C2:Hid (∀w,Calls Tryz.prog 164 #[.string (s.extract 0 n)] w (Xti ((bs s).take n) w)):=Hd (fun w=>by
   have:=Xh0 (s.extract 0 n) w (by omega) (by omega)
   rw[Yf4] at this
   exact this)
  obtain⟨f1,f2⟩:=Yb1 (bs s) (fun x hx=>Xga s x hx) n HN n0 (by rw[Xaa];exact hl)
  have tl:((bs s).take n).length=n:=by rw[List.length_take,Xaa];omega
  have FO:=Hd (And.intro f1 f2)
  have TL:=Hd tl
  have hnI:(n:Int)≤(s.size:Int):=by omega
  obtain⟨l2,hl2⟩:∃l,l=(bs s).take n:=⟨_,rfl⟩
  rw[←hl2] at C2 FO TL
  obtain⟨r,hr⟩:∃r,r=decide (rn (bs s)≠0):=⟨_,rfl⟩
  have HR:=Hd hr
  have HL1:=Hd L1
  have HB1:=Hd B1
  clear hn HN o1 o2 hc b1 z1 f1 f2 tl hl2 hr L1 B1
  go_enter Tryz.func128,Tryz.ntmps128
  go_wp2_with fail
  refine C1.out.mono ?_
  rintro e w1 ⟨a,b,rfl,hx,hb⟩
  obtain⟨ha,_⟩:=hx HB1.out
  rw[HB1.out]
  rw[show([c]:List Nat).getD 0 0=c from rfl,HL1.out] at ha
  subst ha
  have D1:=Hd hb
  clear hb hx C1
  go_wp2_with fail
  refine(C2.out _).mono ?_
  rintro e w2 ⟨a2,b2,rfl,hx,hb⟩
  have D2:=Hd (D1.out.trans (hb.mono D1.out.size))
  have HX:=Hd hx
  clear hb hx C2 D1
  rw[FO.out.1,←HR.out]
  cases r
  ·go_wp2_with fail
   go_ret3
   exact⟨0,0,3,rfl,(fun h=>absurd (of_decide_eq_false HR.out.symm) (fun h'=>h' h)),(fun _=>by decide),D2.out⟩
  ·go_wp2_with fail
   go_ret3
   have hr:=of_decide_eq_true HR.out.symm
   have h1:=FO.out.2 hr
   have h2:=HX.out (by rw[FO.out.1];exact decide_eq_true hr)
   exact⟨b2,a,0,rfl,(fun _=>⟨by rw[h2.2,TL.out];exact h1.1,h1.2.symm,rfl⟩),(fun h=>absurd h hr),D2.out⟩
 ·have C2:Hid (∀w,Calls Tryz.prog 164 #[.string s] w (Xti (bs s) w)):=Hd (fun w=>Xh0 s w h0 (by omega))
  have R0:Hid (rn (bs s)=0):=Hd (Yan _ (by rw[Xaa,←HN];omega))
  have HL1:=Hd L1
  have HB1:=Hd B1
  clear hn HN o1 o2 hc b1 z1 L1 B1
  go_enter Tryz.func128,Tryz.ntmps128
  go_wp2_with fail
  refine C1.out.mono ?_
  rintro e w1 ⟨a,b,rfl,hx,hb⟩
  obtain⟨ha,_⟩:=hx HB1.out
  rw[HB1.out]
  rw[show([c]:List Nat).getD 0 0=c from rfl,HL1.out] at ha
  subst ha
  have D1:=Hd hb
  clear hb hx C1
  go_wp2_with fail
  refine(C2.out _).mono ?_
  rintro e w2 ⟨a2,b2,rfl,hx,hb⟩
  have D2:=Hd (D1.out.trans (hb.mono D1.out.size))
  clear hb hx C2 D1
  obtain⟨r,hr⟩:∃r,r=bgB (bs s):=⟨_,rfl⟩
  rw[←hr]
  clear hr
  cases r
  ·go_wp2_with fail
   go_ret3
   exact⟨0,0,3,rfl,(fun h=>absurd R0.out h),(fun _=>by decide),D2.out⟩
  ·go_wp2_with fail
   go_ret3
   exact⟨0,0,23,rfl,(fun h=>absurd R0.out h),(fun _=>by decide),D2.out⟩
theorem Yjo:(Tryz.prog.info? 3).map (fun i=>(i.zero,i.size,i.bytes))=some (some (.int .i64 0),1,8):=by kernel_rfl
def NRow (w:World) (v:Value) (ns:List Nat):Prop:=
 ∃a cap,v=.slice a ns.length cap∧ns.length≤cap∧(ns≠[]→∃b off,a=some ⟨b,off,none⟩∧b<w.heap.size∧∀j (h:j<ns.length),w.cell? ⟨b,off+j,none⟩=some (.int .i64 (ns[j]:Int)))
def nV (n:Nat):Value:=.int .i64 (n:Int)
theorem Xsf {w:World} {base:Nat} {v:Value} {ns:List Nat} (h:w.ownsRow base 3 1 v ns.length (ns.map nV)):NRow w v ns:=by
 rcases h.2 with⟨rfl,h0⟩|⟨g,cap,cur,rfl,hb,hg,hc,_,hs,ht⟩
 ·exact⟨none,0,by rw[h0],by rw[h0];exact Nat.le_refl _,fun hne=>absurd (List.length_eq_zero_iff.1 h0) hne⟩
 ·refine⟨some ⟨g,0,none⟩,cap,rfl,hc,fun _=>⟨g,0,rfl,lt_of_block hg,fun j hj=>?_⟩⟩
  rw[Nat.zero_add,cell_of_row w g j _ _ _ hg]
  have e1:(cur.toList.take (ns.length*1))[j]?=some (.int .i64 (ns[j]:Int)):=by rw[ht];simp[hj,nV]
  rw[List.getElem?_take,if_pos (by omega)] at e1
  simpa using e1
theorem NRow.below {w w':World} {v:Value} {ns:List Nat} (h:NRow w v ns) (hb:Below w.heap.size w w'):NRow w' v ns:=by
 obtain⟨a,cap,h1,h2,h3⟩:=h
 refine⟨a,cap,h1,h2,fun hne=>?_⟩
 obtain⟨b,off,h4,h5,h6⟩:=h3 hne
 exact⟨b,off,h4,Nat.lt_of_lt_of_le h5 hb.size,fun j hj=>(hb.cell (p:=⟨b,off+j,none⟩) h5).trans (h6 j hj)⟩
theorem Xpg {P:Program} (w:World) (base:Nat) (t ty e:TypeId) (i:TypeInfo) (z:Value) (size bytes:Nat) (ht:P.underlying t=some (.slice e)) (hi:P.info? e=some i) (hz:i.zero=some z)
    (hsize:i.size=size) (hby:i.bytes=bytes) (v:Value) (n:Nat) (xs:List Value) (hown:w.ownsRow base e size v n xs)
    (a:Addr) (m c:Nat) (news:List Value) (hl:news.length=m*size) (hnews:∀j u,news[j]?=some u→w.cell? (a.add j)=some u) (h1:∀u∈news,u.oneCell'=true)
    (h63:n+m≤maxLen) (hbytes:(n+m)*bytes≤140737488355328) (hm:0<m) (v':Value) (w':World)
    (hr:(Builtin.append_ #[t,t] ty #[v,.slice (some a) m c]).run P w=.ok v' w'):∀k,v'.ownBlock=some k→v.ownBlock=some k∨w.heap.size≤k:=by
 subst hsize
 subst hby
 have hsmall:n+m≤9223372036854775807:=by simp only[maxLen] at h63;omega
 rcases hown.2 with⟨rfl,rfl⟩|⟨g,cap,cur,rfl,hbg,hg,hnc,hcm,hcs,htake⟩
 ·have h:=run_append_nil (P:=P) w t ty e i z ht hi hz a m c news hl hnews hm (by omega) (by have hb:=hbytes;simp only[Nat.zero_add] at hb;omega)
  rw[h] at hr
  cases hr
  intro k hk
  simp[Value.ownBlock] at hk
  exact .inr (by omega)
 ·by_cases hroom:n+m≤cap
  ·have hfit:n*i.size+news.length≤cur.size:=by rw[hl,hcs,←Nat.add_mul];exact Nat.mul_le_mul_right _ hroom
   have h:=run_append_room (P:=P) w t ty e i ht hi g n cap cur hg a m c news hl hnews h1 hroom hfit
   rw[h] at hr
   cases hr
   exact fun k hk=>.inl hk
  ·have h:=run_append_grow (P:=P) w t ty e i z ht hi hz ⟨g,0,none⟩ n cap xs hown.1 (hown.cells (g:=g) rfl) a m c news hl hnews (by omega) (by omega) (growslice_fits (by omega) hbytes)
   rw[h] at hr
   cases hr
   intro k hk
   simp[Value.ownBlock] at hk
   exact .inr (by omega)
structure TA (w:World) (u1 u2:Value) (n1 n2:Nat) (xs1 xs2:List Value) (W:World):Prop where
 r1:W.ownsRow w.heap.size 3 1 u1 n1 xs1
 r2:W.ownsRow w.heap.size 3 1 u2 n2 xs2
 sep:∀k,u1.ownBlock=some k→u2.ownBlock≠some k
 bel:Below w.heap.size w W
theorem TA.alloc {w:World} {u1 u2:Value} {n1 n2:Nat} {xs1 xs2:List Value} {W:World} (h:TA w u1 u2 n1 n2 xs1 xs2 W) (o:Obj):TA w u1 u2 n1 n2 xs1 xs2 (W.alloc o):=⟨h.r1.alloc o,h.r2.alloc o,h.sep,h.bel.alloc h.bel.size o⟩
theorem TA.symm {w:World} {u1 u2:Value} {n1 n2:Nat} {xs1 xs2:List Value} {W:World} (h:TA w u1 u2 n1 n2 xs1 xs2 W):TA w u2 u1 n2 n1 xs2 xs1 W:=⟨h.r2,h.r1,fun k h1 h2=>h.sep k h2 h1,h.bel⟩
theorem TA.app {w:World} {u1 u2:Value} {n1 n2:Nat} {xs1 xs2:List Value} {W:World} (h:TA w u1 u2 n1 n2 xs1 xs2 W) (hn:n1≤100000000) (q:Nat) (x:Value) (hx:x.oneCell'=true) (hq:W.heap[q]?=some (.cells #[x] 3 (0,0))):
    ∃v' W',(Builtin.append_ #[133,133] 133 #[u1,.slice (some ⟨q,0,none⟩) 1 1]).run Tryz.prog W=.ok v' W'∧TA w v' u2 (n1+1) n2 (xs1++[x]) xs2 W'∧(∀k,k<W.heap.size→u1.ownBlock≠some k→W'.heap[k]?=W.heap[k]?):=by
 obtain⟨i0,hi0,hz0,hz1,hz2⟩:=info_parts Yjo
 have hnews:∀(j:Nat) u,[x][j]?=some u→W.cell? ((⟨q,0,none⟩:Addr).add j)=some u:=World.news_of_block (cs:=#[x]) (t:=3) (fr:=(0,0)) hq
 have h63:n1+1≤maxLen:=by unfold maxLen;omega
 obtain⟨v',w',hr,h2,h3,h4⟩:=run_append_own (P:=Tryz.prog) W w.heap.size 133 133 3 i0 (.int .i64 0) 1 8 Tryz.underlying133 hi0 hz0 hz1 hz2 rfl (by decide) u1 n1 xs1 h.r1 ⟨q,0,none⟩ 1 1 [x] rfl hnews (by simpa using hx) h63 (by omega) h.bel.size
 have h5:=Xpg (P:=Tryz.prog) W w.heap.size 133 133 3 i0 (.int .i64 0) 1 8 Tryz.underlying133 hi0 hz0 hz1 hz2 u1 n1 xs1 h.r1 ⟨q,0,none⟩ 1 1 [x] rfl hnews (by simpa using hx) h63 (by omega) (by omega) v' w' hr
 have e2:u2.ownBlock=none∨u2.ownBlock≠u1.ownBlock:=by
  cases e:u2.ownBlock with
  |none=>exact .inl rfl
  |some k=>exact .inr (fun e'=>h.sep k e'.symm e)
 refine⟨v',w',hr,⟨h2,h.r2.kept h3 e2,fun k hk hk2=>?_,Below.grown h.bel h3 h.bel.size (fun k hk=>(h.r1.lt k hk).1)⟩,fun k hk hne=>h3.block k hk (fun e=>hne e.symm)⟩
 rcases h5 k hk with h6|h6
 ·exact h.sep k h6 hk2
 ·have:=(h.r2.lt k hk2).2;omega
theorem Yip (w:World) (x:Int):(Instr.buildSlice 133 1 #[(0,.int .i64 x)]).run Tryz.prog w=.ok (.slice (some ⟨w.heap.size,0,none⟩) 1 1) (w.alloc (.cells #[.int .i64 x] 3)):=by kernel_rfl
theorem Xs0 {P:Program} {o:Oper} {a:Act} (w:World) {t e:TypeId} {x:Operand} {v:Value} (ho:o.op=.buildSlice t 1 #[(0,x)]) (hx:a.eval x=v) (h:(Instr.buildSlice t 1 #[(0,v)]).run P w=.ok (.slice (some ⟨w.heap.size,0,none⟩) 1 1) (w.alloc (.cells #[v] e))):(execOp a.eval o).run P w=.ok (.value (.slice (some ⟨w.heap.size,0,none⟩) 1 1)) (w.alloc (.cells #[v] e)):=by
 unfold execOp
 rw[ho]
 simp only[List.map_toArray,List.map_cons,List.map_nil,hx]
 rw[Sem.run_bind,h]
 rfl
def Ygn (l:List Nat) (w:World) (e:Ending) (w':World):Prop:=
 ∃(v1 v2:Value) (a er:Nat),e=.returned (.tuple #[v1,v2,.int .i64 (a:Int),.int .i64 (er:Int)])∧NRow w' v1 ((rns l).map Prod.snd)∧NRow w' v2 ((rns l).map Prod.fst)∧(vld l=true→er=0)∧(vld l=false→er≠0)∧a≤l.length∧Below w.heap.size w w'
theorem Yg4 (l:List Nat):rns l=rsN l.length 0 l:=rfl
theorem Xwl (l:List Nat):(rns l).length≤l.length:=Xwg _ _ _
theorem Xh7 {fn:Func} {t u v x:Tmp} (h:fn.results=#[.tmp t,.tmp u,.tmp v,.tmp x]) (tmps:Array Value) (P:Program) (w:World):
    (results fn tmps).run P w=.ok (.tuple #[tmps.getD t undef,tmps.getD u undef,tmps.getD v undef,tmps.getD x undef]) w:=by
 simp[results,h]
structure AlI (s:ByteArray) (w:World) (n:Nat) (u1 u2:Value) (pre:List (Nat×Nat)) (wr:World):Prop where
 rn1:rns (bs s)=pre++rsN (s.size-n) n ((bs s).drop n)
 vd1:vld (bs s)=vld ((bs s).drop n)
 len:pre.length≤n
 ta:TA w u1 u2 pre.length pre.length ((pre.map Prod.snd).map nV) ((pre.map Prod.fst).map nV) wr
theorem AlI.post1 {s:ByteArray} {w wr:World} {n:Nat} {u1 u2:Value} {pre:List (Nat×Nat)} (h:AlI s w n u1 u2 pre wr) (he:rns (bs s)=pre):NRow wr u1 ((rns (bs s)).map Prod.snd):=by
 rw[he]
 exact Xsf (base:=w.heap.size) (by rw[List.length_map];exact h.ta.r1)
theorem AlI.post2 {s:ByteArray} {w wr:World} {n:Nat} {u1 u2:Value} {pre:List (Nat×Nat)} (h:AlI s w n u1 u2 pre wr) (he:rns (bs s)=pre):NRow wr u2 ((rns (bs s)).map Prod.fst):=by
 rw[he]
 exact Xsf (base:=w.heap.size) (by rw[List.length_map];exact h.ta.r2)
set_option maxHeartbeats 1000000 in
theorem Xzh (s:ByteArray) (w:World) (hs:s.size≤10000000):
    Calls Tryz.prog 84 #[.string s] w (Ygn (bs s) w):=by
 go_enter Tryz.func84,Tryz.ntmps84
 go_wp2_with fail
 go_loopg [6,7,8] s.size (fun k a b i wr=>∃(n:Nat) (pre:List (Nat×Nat)),n≤s.size∧k=s.size-n∧i=.int .i64 (n:Int)∧Hid (AlI s w n a b pre wr))
 case atStart=>exact⟨0,[],by omega,rfl,rfl,Hd ⟨by rw[Nat.sub_zero,Yg4,Xaa];rfl,rfl,Nat.le_refl _,⟨World.ownsRow_nil _ _ _ _,World.ownsRow_nil _ _ _ _,(fun k h=>by simp[Value.ownBlock] at h),Below.refl _ _⟩⟩⟩
 case round=>
  obtain⟨n,pre,hn,rfl,rfl,J⟩:=hrel
  by_cases b:n<s.size
  ·have hsz:(s.extract n s.size).size=s.size-n:=by rw[ByteArray.size_extract];omega
   have D:=Hd (Xyd (s.extract n s.size) wr (by omega) (by rw[hsz];unfold maxLen;omega))
   rw[Xnb] at D
   have hl:=(Xpy ((bs s).drop n)).1
   rw[List.length_drop,Xaa] at hl
   have hne:(bs s).drop n≠[]:=by intro e;have:=congrArg List.length e;rw[List.length_drop,Xaa] at this;simp at this;omega
   have hst:=Xmb hne
   have hlt:((bs s).drop n).length=s.size-n:=by rw[List.length_drop,Xaa]
   by_cases z:rn ((bs s).drop n)=0
   ·have E1:Hid (rns (bs s)=pre):=Hd (by rw[J.out.rn1,Xmm _ _ _ z,List.append_nil])
    have E2:Hid (vld (bs s)=false):=Hd (by rw[J.out.vd1,hst,z];rfl)
    have Z:=Hd z
    clear hst hne hsz hlt z
    go_wp2_with fail
    refine D.out.mono ?_
    rintro e w1 ⟨r,m,er,rfl,h1,h2,hb⟩
    have q1:((er:Int) !=0)=true:=Xam (by have:=h2 Z.out;omega)
    have H2:=Hd (h2 Z.out)
    have HB:=Hd hb
    clear D h1 h2 hb
    go_wp2_with fail
    (try simp only[Exit.inBlock,Exit.then])
    refine bodyPost_ret (Xh7 rfl _ _ _) rfl ?_
    exact⟨_,_,n,er,rfl,(J.out.post1 E1.out).below HB.out,(J.out.post2 E1.out).below HB.out,(fun h=>by rw[E2.out] at h;cases h),(fun _=>H2.out),by rw[Xaa];exact hn,J.out.ta.bel.trans (HB.out.mono J.out.ta.bel.size)⟩
   ·obtain⟨p,hp⟩:∃p,p=(n,cpt ((bs s).drop n)):=⟨_,rfl⟩
    have E1:Hid (∀m,m=rn ((bs s).drop n)→rns (bs s)=(pre++[p])++rsN (s.size-(n+m)) (n+m) ((bs s).drop (n+m))):=Hd (by
     rintro m rfl
     rw[J.out.rn1,Xmn _ _ _ z (by rw[hlt];exact Nat.le_refl _),←hp,List.drop_drop,List.length_drop,Xaa,List.append_assoc]
     rfl)
    have E2:Hid (∀m,m=rn ((bs s).drop n)→vld (bs s)=vld ((bs s).drop (n+m))):=Hd (by
     rintro m rfl
     rw[J.out.vd1,hst,List.drop_drop]
     simp[z])
    have Z:=Hd z
    have HP:=Hd hp
    have LEN:=Hd J.out.len
    have SZ:=Hd hs
    have HN:=Hd hn
    clear hst hne hsz hlt z hp
    go_wp2_with fail
    refine D.out.mono ?_
    rintro e w1 ⟨r,m,er,rfl,h1,h2,hb⟩
    obtain⟨hr,hm,rfl⟩:=h1 Z.out
    have HM:=Hd hm
    have HR:=Hd hr
    have T1:TA w u6 u7 pre.length pre.length ((pre.map Prod.snd).map nV) ((pre.map Prod.fst).map nV) w1:=⟨Xdp J.out.ta.r1 hb,Xdp J.out.ta.r2 hb,J.out.ta.sep,J.out.ta.bel.trans (hb.mono J.out.ta.bel.size)⟩
    have T2:=Hd T1
    have hml:m≤s.size-n:=by rw[hm];exact hl
    have hm0:m≠0:=by rw[hm];exact Z.out
    have EXT:Hid (∀v8 v9 W,TA w v8 v9 (pre.length+1) (pre.length+1) ((pre.map Prod.snd).map nV++[.int .i64 (r:Int)]) ((pre.map Prod.fst).map nV++[.int .i64 (n:Int)]) W→AlI s w (n+m) v8 v9 (pre++[p]) W):=Hd (fun v8 v9 W h=>⟨E1.out m HM.out,E2.out m HM.out,by rw[List.length_append];have:=LEN.out;simp;omega,by
     rw[List.length_append,List.map_append,List.map_append,List.map_append,List.map_append,HP.out,←HR.out]
     exact h⟩)
    have PL:Hid (pre.length≤100000000):=Hd (by have:=LEN.out;have:=SZ.out;have:=HN.out;omega)
    have OR:Hid (nV r=.int .i64 (r:Int)):=Hd rfl
    clear D h1 h2 hb hm hr hl J T1 E1 E2 Z HP LEN HM HR
    obtain⟨ol,hol⟩:∃o,o=pre.length:=⟨_,rfl⟩
    rw[←hol] at T2 EXT PL
    obtain⟨xs1,hx1⟩:∃o,o=(pre.map Prod.snd).map nV:=⟨_,rfl⟩
    obtain⟨xs2,hx2⟩:∃o,o=(pre.map Prod.fst).map nV:=⟨_,rfl⟩
    rw[←hx1,←hx2] at T2 EXT
    clear hol hx1 hx2
    go_upto_region 7 with fail
    refine wp_region_list ?_
    simp only[]
    have A1:=T2.out.alloc (.cells #[.int .i64 (r:Int)] 3)
    obtain⟨v8,W2,hr,A2,_⟩:=A1.app PL.out w1.heap.size (.int .i64 (r:Int)) rfl (heap_alloc_new w1 _)
    have A3:=A2.alloc (.cells #[.int .i64 (n:Int)] 3)
    obtain⟨v9,W4,hr2,A4,_⟩:=A3.symm.app PL.out W2.heap.size (.int .i64 (n:Int)) rfl (heap_alloc_new W2 _)
    have FJ:=Hd (EXT.out _ _ _ A4.symm)
    clear T2 A1 A2 A3 A4 EXT
    refine Xaz (v:=u6) (w':=w1) rfl (by go_simp) ?_
    refine Xaz (v:=.int .i64 (r:Int)) (w':=w1) rfl (by go_simp) ?_
    refine Xaz rfl (Xs0 w1 (x:=.tmp 31) (v:=.int .i64 (r:Int)) rfl (by kernel_rfl) (Yip _ _)) ?_
    refine Xaz rfl (Xki (s:=.tmp 30) (x:=.tmp 32) (v:=u6) (u:=.slice (some ⟨w1.heap.size,0,none⟩) 1 1) rfl (by kernel_rfl) (by kernel_rfl) hr) ?_
    refine Xaz (v:=u7) (w':=W2) rfl (by go_simp) ?_
    refine Xaz (v:=.int .i64 (n:Int)) (w':=W2) rfl (by go_simp) ?_
    refine Xaz rfl (Xs0 W2 (x:=.tmp 35) (v:=.int .i64 (n:Int)) rfl (by kernel_rfl) (Yip _ _)) ?_
    refine Xaz rfl (Xki (s:=.tmp 34) (x:=.tmp 36) (v:=u7) (u:=.slice (some ⟨W2.heap.size,0,none⟩) 1 1) rfl (by kernel_rfl) (by kernel_rfl) hr2) ?_
    clear hr hr2
    go_wp2_with fail
    go_roundg (s.size-(n+m))
    case measure=>omega
    case rel=>exact⟨n+m,pre++[p],by omega,rfl,by go_num,FJ⟩
  ·have E1:Hid (rns (bs s)=pre):=Hd (by rw[J.out.rn1,List.drop_of_length_le (by rw[Xaa];omega),Xmm _ _ _ Ydc,List.append_nil])
   have E2:Hid (vld (bs s)=true):=Hd (by rw[J.out.vd1,List.drop_of_length_le (by rw[Xaa];omega)];rfl)
   go_wp2_with fail
   (try simp only[Exit.inBlock,Exit.then])
   refine bodyPost_ret (Xh7 rfl _ _ _) rfl ?_
   exact⟨_,_,0,0,rfl,J.out.post1 E1.out,J.out.post2 E1.out,(fun _=>rfl),(fun h=>by rw[E2.out] at h;cases h),Nat.zero_le _,J.out.ta.bel⟩
theorem Xys:∀l:List Nat,dbl l=true↔∃i,i+1<l.length∧l.getD i 0=32∧l.getD (i+1) 0=32
 |[]=>by simp[dbl]
 |[a]=>by simp[dbl]
 |a::b::t=>by
  have ih:=Xys (b::t)
  simp only[dbl,Bool.or_eq_true,Bool.and_eq_true,decide_eq_true_eq]
  rw[ih]
  constructor
  ·rintro(⟨rfl,rfl⟩|⟨i,h1,h2,h3⟩)
   ·exact⟨0,by simp,rfl,rfl⟩
   ·exact⟨i+1,by simp at h1⊢;omega,h2,h3⟩
  ·rintro⟨i,h1,h2,h3⟩
   cases i with
   |zero=>exact .inl ⟨h2,h3⟩
   |succ i=>exact .inr ⟨i,by simp at h1⊢;omega,h2,h3⟩
def spB (l:List Nat) (i:Nat):Prop:=l.getD i 0=32∧(i=0∨i=l.length-1∨l.getD (i+1) 0=32)
theorem Xv3 (l:List Nat):sqz l=true↔∀i,i<l.length→¬spB l i:=by
 unfold sqz
 simp only[Bool.and_eq_true,Bool.not_eq_true',decide_eq_false_iff_not]
 have hd:=Xys l
 constructor
 ·rintro⟨⟨h1,h2⟩,h3⟩ i hi ⟨h4,h5⟩
  rcases h5 with rfl|rfl|h5
  ·apply h1
   cases l with
   |nil=>simp at hi
   |cons a t=>simpa using h4
  ·apply h2
   rw[List.getLast?_eq_getElem?]
   simp[List.getD,hi] at h4⊢
   exact h4
  ·by_cases hi1:i+1<l.length
   ·rw[hd.2 ⟨i,hi1,h4,h5⟩] at h3;cases h3
   ·simp[List.getD,hi1] at h5
 ·intro h
  refine⟨⟨fun h1=>?_,fun h1=>?_⟩,?_⟩
  ·cases l with
   |nil=>cases h1
   |cons a t=>exact h 0 (by simp) ⟨by simpa using h1,.inl rfl⟩
  ·by_cases hz:l=[]
   ·subst hz;cases h1
   ·have:0<l.length:=List.length_pos_iff.2 hz
    rw[List.getLast?_eq_getElem?] at h1
    exact h (l.length-1) (by omega) ⟨by simp[List.getD,h1],.inr (.inl rfl)⟩
  ·cases hb:dbl l with
   |false=>rfl
   |true=>
    obtain⟨i,h1,h2,h3⟩:=hd.1 hb
    exact absurd ⟨h2,.inr (.inr h3)⟩ (h i (by omega))
theorem Yg2 {l:List Nat} {i:Nat} (hi:i<l.length) (h:spB l i):sqz l=false:=by
 cases hs:sqz l with
 |false=>rfl
 |true=>exact absurd h ((Xv3 l).1 hs i hi)
set_option maxHeartbeats 1000000 in
theorem Xr6 (s:ByteArray) (w:World) (hs:s.size≤maxLen):
    Calls Tryz.prog 86 #[.string s] w fun e w'=>e=.returned (.bool (sqz (bs s)))∧Dr w w':=by
 unfold maxLen at hs
 go_enter Tryz.func86,Tryz.ntmps86
 go_wp2_with fail
 go_loopg [3] s.size (fun k i wr=>∃n:Nat,n≤s.size∧k=s.size-n∧i=.int .i64 (n:Int)∧Hid (∀i,i<n→¬spB (bs s) i)∧Hid (Dr w wr))
 case atStart=>exact⟨0,by omega,rfl,rfl,Hd (fun i h=>by omega),Hd (Dr.refl _)⟩
 case round=>
  obtain⟨n,hn,rfl,rfl,hv,hd⟩:=hrel
  by_cases b:n<s.size
  ·obtain⟨x,hx⟩:∃x,x=(bs s).getD n 0:=⟨_,rfl⟩
   have hx2:x<256:=by rw[hx];exact Xa8 s n
   have y1:=fun w=>Xgs s w n n rfl b x hx
   have NXT:Hid (¬spB (bs s) n→∀i,i<n+1→¬spB (bs s) i):=Hd (fun h i hi=>by
    rcases Nat.lt_succ_iff_lt_or_eq.1 hi with h'|rfl
    ·exact hv.out i h'
    ·exact h)
   have NO:Hid (spB (bs s) n→sqz (bs s)=false):=Hd (Yg2 (by rw[Xaa];exact b))
   have HX:=Hd hx
   clear hx hv
   by_cases e32:x=32
   ·have q1:((x:Int)==32)=true:=Xa6 (by omega)
    by_cases n0:n=0
    ·have q2:((n:Int)==0)=true:=Xa6 (by omega)
     have F:=Hd (NO.out ⟨by rw[←HX.out];exact e32,.inl n0⟩)
     clear NXT NO e32 n0
     go_wp2_with fail
     go_ret
     exact⟨by rw[F.out];rfl,by(first|exact hd.out|exact hd.out.drewN _)⟩
    by_cases nl:n=s.size-1
    ·have q2:((n:Int)==0)=false:=Xak (by omega)
     have q3:((n:Int)==(s.size:Int)-1)=true:=Xa6 (by omega)
     have F:=Hd (NO.out ⟨by rw[←HX.out];exact e32,.inr (.inl (by rw[Xaa];exact nl))⟩)
     clear NXT NO e32 n0 nl
     go_wp2_with fail
     go_ret
     exact⟨by rw[F.out];rfl,by(first|exact hd.out|exact hd.out.drewN _)⟩
    obtain⟨y,hy⟩:∃y,y=(bs s).getD (n+1) 0:=⟨_,rfl⟩
    have hy2:y<256:=by rw[hy];exact Xa8 s (n+1)
    have y2:=fun w=>Xgs s w ((n:Int)+1) (n+1) (by omega) (by omega) y hy
    have q2:((n:Int)==0)=false:=Xak (by omega)
    have q3:((n:Int)==(s.size:Int)-1)=false:=Xak (by omega)
    by_cases f32:y=32
    ·have q4:((y:Int)==32)=true:=Xa6 (by omega)
     have F:=Hd (NO.out ⟨by rw[←HX.out];exact e32,.inr (.inr (by rw[←hy];exact f32))⟩)
     clear NXT NO e32 n0 nl f32 hy
     go_wp2_with fail
     go_ret
     exact⟨by rw[F.out];rfl,by(first|exact hd.out|exact hd.out.drewN _)⟩
    ·have q4:((y:Int)==32)=false:=Xak (by omega)
     have F:=Hd (NXT.out (fun h=>h.2.elim (fun h=>n0 h) (fun h=>h.elim (fun h=>nl (by rw[Xaa] at h;exact h)) (fun h=>f32 (by rw[←hy] at h;exact h)))))
     clear NXT NO e32 n0 nl f32 hy
     go_wp2_with fail
     go_roundg (s.size-(n+1))
     case measure=>omega
     case rel=>exact⟨n+1,by omega,rfl,by go_num,F,by(first|exact hd|exact Hd (hd.out.drewN _))⟩
   ·have q1:((x:Int)==32)=false:=Xak (by omega)
    have F:=Hd (NXT.out (fun h=>e32 (by rw[HX.out];exact h.1)))
    clear NXT NO e32
    go_wp2_with fail
    go_roundg (s.size-(n+1))
    case measure=>omega
    case rel=>exact⟨n+1,by omega,rfl,by go_num,F,by(first|exact hd|exact Hd (hd.out.drewN _))⟩
  ·have F:Hid (sqz (bs s)=true):=Hd ((Xv3 _).2 (fun i hi=>hv.out i (by rw[Xaa] at hi;omega)))
   clear hv
   go_wp2_with fail
   go_ret
   exact⟨by rw[F.out];rfl,by(first|exact hd.out|exact hd.out.drewN _)⟩
theorem Xde {p:Nat→Bool} {l:List Nat} {k c:Nat} (hk:k<l.length) (hc:c=l.getD k 0) (h:p c=false):l.all p=false:=by
 rw[List.all_eq_false]
 refine⟨c,?_,by simp[h]⟩
 rw[hc];simp[List.getD,hk]
theorem Xb2 {p:Nat→Bool} {l:List Nat} {k c:Nat} (h0:(l.take k).all p=true) (hk:k<l.length) (hc:c=l.getD k 0) (h:p c=true):(l.take (k+1)).all p=true:=by
 rw[List.take_succ_eq_append_getElem hk,List.all_append,h0]
 have:l[k]=c:=by rw[hc];simp[List.getD,hk]
 simp[this,h]
theorem Xsw (t:Bool) (l:List Nat):Xhg t l=(vld l&&((rns l).map Prod.snd).all (gd t)):=by
 unfold Xhg
 rw[List.all_map]
 rfl
theorem NRow.at {w:World} {v:Value} {ns:List Nat} (h:NRow w v ns) (j:Nat) (hj:j<ns.length):∃b off cap,v=.slice (some ⟨b,off,none⟩) ns.length cap∧ns.length≤cap∧b<w.heap.size∧w.cell? ⟨b,off+j,none⟩=some (.int .i64 (ns.getD j 0:Int)):=by
 obtain⟨a,cap,h1,h2,h3⟩:=h
 obtain⟨b,off,rfl,h5,h6⟩:=h3 (fun e=>by rw[e] at hj;simp at hj)
 exact⟨b,off,cap,h1,h2,h5,by rw[h6 j hj];simp[List.getD,hj]⟩
set_option maxHeartbeats 1000000 in
theorem Xjk (s:ByteArray) (most:Nat) (w:World) (hs:s.size≤10000000) (hm:most≤10000000):
    Calls Tryz.prog 44 #[.string s,.int .i64 (most:Int)] w fun e w'=>e=.returned (.int .i64 (Xfa (bs s) most:Nat))∧Below w.heap.size w w':=by
 obtain⟨T,hT⟩:∃T,T=Xfa (bs s) most:=⟨_,rfl⟩
 rw[←hT]
 have TF:Hid (T=fe (eIf (decide (most<s.size)) 5) (fe (eIf (!(vld (bs s)&&((rns (bs s)).map Prod.snd).all (gd false))) 6) (eIf (!sqz (bs s)) 3))):=Hd (by rw[hT];unfold Xfa;rw[Xaa,Xsw])
 clear hT
 by_cases hl:most<s.size
 ·have T5:Hid (T=5):=Hd (by rw[TF.out,decide_eq_true hl];rfl)
  go_enter Tryz.func44,Tryz.ntmps44
  go_wp2_with fail
  go_ret
  exact⟨by rw[T5.out];rfl,Below.refl _ _⟩
 have TG:Hid (T=fe (eIf (!(vld (bs s)&&((rns (bs s)).map Prod.snd).all (gd false))) 6) (eIf (!sqz (bs s)) 3)):=Hd (by rw[TF.out,decide_eq_false hl];rfl)
 have A:=Hd (Xzh s w hs)
 have SQ:=Hd (fun w=>Xr6 s w (by unfold maxLen;omega))
 have LN:(rns (bs s)).length≤s.size:=by rw[←Xaa];exact Xwl _
 have LN2:((rns (bs s)).map Prod.snd).length≤s.size:=by rw[List.length_map];exact LN
 obtain⟨V,hV⟩:∃V,V=vld (bs s):=⟨_,rfl⟩
 obtain⟨ns,hns⟩:∃ns,ns=(rns (bs s)).map Prod.snd:=⟨_,rfl⟩
 have HV:=Hd hV
 rw[←hV,←hns] at TG
 obtain⟨m,hm2⟩:∃m,m=ns.length:=⟨_,rfl⟩
 rw[←hns,←hm2] at LN2
 have HNS:=Hd hns
 have HM:=Hd hm2
 clear TF LN hV hns hm2
 go_enter Tryz.func44,Tryz.ntmps44
 go_wp2_with fail
 refine A.out.mono ?_
 rintro e w1 ⟨v1,v2,a,er,rfl,r1,r2,h1,h2,_,hb⟩
 rw[←HNS.out] at r1
 have R1:=Hd r1
 have B1:=Hd hb
 cases V with
 |false=>
  have q1:((er:Int) !=0)=true:=Xam (by have:=h2 HV.out.symm;omega)
  have T6:Hid (T=6):=Hd (by rw[TG.out];rfl)
  clear A r1 r2 h1 h2 hb TG
  go_wp2_with fail
  go_ret
  exact⟨by rw[T6.out];rfl,B1.out⟩
 |true=>
  obtain rfl:=h1 HV.out.symm
  clear A r1 r2 h1 h2 hb
  obtain⟨ba,cap,rfl,hc,_⟩:=R1.out
  rw[←HM.out] at hc⊢
  go_wp2_with fail
  go_loopg [9] m (fun k i wr=>∃n:Nat,n≤m∧k=m-n∧i=.int .i64 (n:Int)∧Hid ((ns.take n).all (gd false)=true)∧Hid (Dr w1 wr))
  case atStart=>exact⟨0,by omega,rfl,rfl,Hd rfl,Hd (Dr.refl _)⟩
  case round=>
   obtain⟨n,hn,rfl,rfl,hg,hd⟩:=hrel
   by_cases b:n<m
   ·have hnl:n<ns.length:=by rw[←HM.out];exact b
    obtain⟨b0,off,cap',e0,_,hb0,hcell⟩:=R1.out.at n hnl
    obtain⟨x,hx⟩:∃x,x=ns.getD n 0:=⟨_,rfl⟩
    rw[←hx] at hcell
    cases e0
    have hcc:wr.cell? ⟨b0,off+n,none⟩=some (.int .i64 (x:Int)):=((Dr.below hd.out).cell (p:=⟨b0,off+n,none⟩) hb0).trans hcell
    obtain⟨c,hcx⟩:∃c,c=Xs6 x:=⟨_,rfl⟩
    have C:=Hd (fun w=>Xsa w x)
    rw[←hcx] at C
    have HC:=Hd hcx
    have HX:=Hd hx
    have HL:=Hd hnl
    clear hcell hx hcx hnl hb0
    cases c
    ·have G:Hid ((ns.take (n+1)).all (gd false)=true):=Hd (Xb2 hg.out HL.out HX.out (by unfold gd;rw[←HC.out];rfl))
     clear hg
     go_wp2_with (go_at_call 85;refine(C.out _).mono ?_;rintro e w' ⟨rfl,rfl⟩)
     go_roundg (m-(n+1))
     case measure=>omega
     case rel=>exact⟨n+1,by omega,rfl,by go_num,G,by(first|exact hd|exact Hd (hd.out.drewN _))⟩
    ·have T6:Hid (T=6):=Hd (by
        rw[TG.out,Xde HL.out HX.out (by unfold gd;rw[←HC.out];rfl)]
        rfl)
     clear hg TG
     go_wp2_with (go_at_call 85;refine(C.out _).mono ?_;rintro e w' ⟨rfl,rfl⟩)
     go_ret
     exact⟨by rw[T6.out];rfl,B1.out.trans ((Dr.below (by(first|exact hd.out|exact hd.out.drewN _))).mono B1.out.size)⟩
   ·obtain rfl:n=m:=by omega
    have T7:Hid (T=eIf (!sqz (bs s)) 3):=Hd (by
     have h:=hg.out
     rw[List.take_of_length_le (by rw[HM.out];exact Nat.le_refl _)] at h
     rw[TG.out,h]
     rfl)
    obtain⟨q,hq⟩:∃q,q=sqz (bs s):=⟨_,rfl⟩
    rw[←hq] at SQ T7
    clear hg TG hq
    go_wp2_with fail
    refine(SQ.out _).mono ?_
    rintro e w2 ⟨rfl,hd2⟩
    have D2:=Hd hd2
    clear hd2
    cases q
    ·go_wp2_with fail
     go_ret
     exact⟨by rw[T7.out];rfl,B1.out.trans ((Dr.below hd.out).trans ((Dr.below D2.out).mono (Nat.le_of_eq (Dr.size hd.out).symm))|>.mono B1.out.size)⟩
    ·go_wp2_with fail
     go_ret
     exact⟨by rw[T7.out];rfl,B1.out.trans ((Dr.below hd.out).trans ((Dr.below D2.out).mono (Nat.le_of_eq (Dr.size hd.out).symm))|>.mono B1.out.size)⟩
end Go.Proofs.YtohmdledkhgdaaaGreatDoor
