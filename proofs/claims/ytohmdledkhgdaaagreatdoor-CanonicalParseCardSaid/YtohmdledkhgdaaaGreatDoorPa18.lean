/- sha256: Write. -/
import Derived.Test.YtohmdledkhgdaaaGreatDoorPa05
import Derived.Test.YtohmdledkhgdaaaGreatDoorPa17
namespace Go.Proofs.YtohmdledkhgdaaaGreatDoor
open Go.RowKit Go.Maps
set_option linter.unusedVariables false
set_option maxRecDepth 100000
theorem Rd.fr1 {w w':World} {a:Option Addr} {l:List Nat} {b:Nat} (h:Rd w a l) (hf:Fr1 b w w') (hne:∀ad,a=some ad→0<l.length→ad.block≠b):Rd w' a l:=
 ⟨h.lt,fun h0=>by
  obtain⟨b',off,rfl,hbw,hc⟩:=h.at_ h0
  refine⟨b',off,rfl,Nat.lt_of_lt_of_le hbw hf.size,fun i hi=>?_⟩
  rw[←hc i hi]
  have:=hf.other b' hbw (hne _ rfl h0)
  unfold World.cell?
  simp only[]
  rw[this]⟩
theorem Rd.drop {w:World} {b off n:Nat} {l:List Nat} (h:Rd w (some ⟨b,off,none⟩) l):Rd w (some ⟨b,off+n,none⟩) (l.drop n):=
 ⟨fun x hx=>h.lt x (List.mem_of_mem_drop hx),fun h0=>by
  rw[List.length_drop] at h0
  obtain⟨b',off',e,hbw,hc⟩:=h.at_ (by omega)
  cases e
  refine⟨b,off+n,rfl,hbw,fun i hi=>?_⟩
  rw[List.length_drop] at hi
  rw[List.getElem_drop,←hc (n+i) (by omega),Nat.add_assoc]⟩
theorem Rd.nil (w:World) (a:Option Addr):Rd w a []:=⟨fun x hx=>(by cases hx),fun h=>absurd h (by simp)⟩
theorem Xbm {P:Program} {ops:Array Oper} {Q:Exit→Act→World→Prop} {i:Nat} {o:Oper} {K:Act→World→Prop} {a:Act} {w:World} {v:Value} (ho:ops[i]?=some o) (hg:o.guard=none)
    (he:(execOp a.eval o).run P w=.ok (.value v) w) (h:K (a.put o.dst v) w):wpOp P ops Q i K a w:=Xbt ho hg (Xb0 he h)
theorem Xdb {P:Program} {ops:Array Oper} {Q:Exit→Act→World→Prop} {i:Nat} {o:Oper} {K:Act→World→Prop} {a:Act} {w w':World} (ho:ops[i]?=some o) (hg:o.guard=none)
    (he:(execOp a.eval o).run P w=.ok .skip w') (h:K (a.put o.dst undef) w'):wpOp P ops Q i K a w:=Xbt ho hg (Xcd he h)
theorem Xao {P:Program} {ops:Array Oper} {Q:Exit→Act→World→Prop} {i:Nat} {o:Oper} {K:Act→World→Prop} {a:Act} {w:World} {f:FuncId} {args:Array Value} (ho:ops[i]?=some o) (hg:o.guard=none)
    (he:(execOp a.eval o).run P w=.ok (.enter f args) w) (hc:Calls P f args w fun e w'=>∃v,e=.returned v∧K (a.put o.dst v) w'):wpOp P ops Q i K a w:=Xbt ho hg (Xrl he hc)
theorem Xbc {P:Program} {md:Region.Mode} {ops:Array Oper} {Q:Exit→Act→World→Prop} {i:Nat} {fuel:Nat} {listed:Array Bool} {a:Act} {w:World} (hr:Region.ready md ops listed=[i])
    (h:wpOp P ops Q i (wpAny P md ops Q fuel (listed.setIfInBounds i true)) a w):wpAny P md ops Q (fuel+1) listed a w:=
 wpAny_all hr (by simp) (fun j hj=>by
  obtain rfl:j=i:=by simpa using hj
  exact h)
theorem Xnf {P:Program} {md:Region.Mode} {ops:Array Oper} {Q:Exit→Act→World→Prop} {i k:Nat} {fuel:Nat} {listed:Array Bool} {a:Act} {w:World} (hr:Region.ready md ops listed=[i,k])
    (h:wpOp P ops Q i (wpAny P md ops Q fuel (listed.setIfInBounds i true)) a w) (h2:wpOp P ops Q k (wpAny P md ops Q fuel (listed.setIfInBounds k true)) a w):wpAny P md ops Q (fuel+1) listed a w:=
 wpAny_all hr (by simp) (fun j hj=>by
  simp only[List.mem_cons,List.not_mem_nil,or_false] at hj
  rcases hj with rfl|rfl
  ·exact h
  ·exact h2)
set_option maxHeartbeats 4000000 in
theorem Xnm (w:World) (b:Nat) (h:Hs) (a:Option Addr) (cap:Nat) (l:List Nat) (hk:HK w b h) (ho:h.Ok) (hr:Rd w a l) (hne:∀ad,a=some ad→0<l.length→ad.block≠b) (hl:h.len+l.length≤1000000000) (hcap:l.length≤cap) (hcm:cap≤maxLen) (hE:Env w) (hb9:9≤b):
    Calls Tryz.prog 73 #[.pointer (some ⟨b,0,none⟩),.slice a l.length cap] w fun e w'=>(∃v,e=.returned v)∧HK w' b (wrF h l)∧Fr1 b w w':=by
 obtain⟨h1,hh1⟩:∃h1:Hs,h1=⟨if h.len=0 then sh0 else h.st,h.blk,h.len⟩:=⟨_,rfl⟩
 have LAW:Hid (wrF h l=wrN l.length h1 l):=Hd (by rw[hh1];rfl)
 have HO:=Hd ho
 have HO1:Hid h1.Ok:=Hd (by rw[hh1];exact⟨by show W8.Ok (if _ then _ else _);split;exact Yc9;exact ho.st,ho.blk⟩)
 have LN:Hid (h1.len=h.len):=Hd (by rw[hh1])
 have IN:=Hd (Ybr w)
 have c72:=hk.len ho.blk.len
 have HK0:=Hd hk;have HR:=Hd hr;have NE:=Hd hne;have HE:=Hd hE;have HH1:=Hd hh1
 unfold maxLen at hcm
 obtain⟨L,hL⟩:∃L,L=l.length:=⟨_,rfl⟩
 have HL:=Hd hL
 have HLN:Hid (h.len+L≤1000000000):=Hd (by rw[hL];exact hl)
 have hcap':L≤cap:=by rw[hL];exact hcap
 obtain⟨hlen,hhl⟩:∃n,n=h.len:=⟨_,rfl⟩
 rw[←hhl] at c72
 have HHL:=Hd hhl
 rw[←hL]
 clear hk ho hr hne hE hh1 hL hl hcap hhl
 go_enter Tryz.func73,Tryz.ntmps73
 go_upto_if 12 with fail
 go_cut [] (fun wx=>Hid (HK wx b h1)∧Hid (Fr1 b w wx))
 case first=>
  by_cases h0:hlen=0
  ·have hz:((hlen:Int)==0)=true:=by rw[h0];rfl
   have E1:Hid (h1=⟨sh0,h.blk,h.len⟩):=Hd (by rw[HH1.out,if_pos (by rw[←HHL.out];exact h0)])
   obtain⟨vs,hvs⟩:∃vs,vs=wC sh0:=⟨_,rfl⟩
   rw[←hvs] at IN
   have HVS:=Hd hvs
   clear hvs h0
   go_wp2_with fail
   refine IN.out.mono ?_
   rintro e w1 ⟨rfl,hb1⟩
   obtain⟨s1,s2⟩:=(HK0.out.below hb1).setSt sh0
   rw[←HVS.out] at s1
   rw[←E1.out] at s1 s2
   have S1:=Hd s1;have S2:=Hd s2
   have FF:Hid (Fr1 b w (w1.setRow b (hC h1))):=Hd ((Fr1.of_below hb1).trans ⟨rfl,rfl,rfl,by simp[World.setRow],fun k hk hne=>setRow_other w1 b k _ hne⟩)
   clear s1 s2 hb1 IN c72
   go_wp2_with ((with_reducible refine Xab 176 rfl _ _ rfl ?_);refine⟨_,_,_,rfl,rfl,S1.out,?_⟩)
   go_meet
   exact⟨S2,FF⟩
  ·have hz:((hlen:Int)==0)=false:=Xak (by omega)
   have E1:Hid (h1=h):=Hd (by rw[HH1.out,if_neg (by rw[←HHL.out];exact h0)])
   clear h0
   go_wp2_with fail
   go_meet
   exact⟨Hd (by rw[E1.out];exact HK0.out),Hd (Fr1.refl _ _)⟩
 case rest=>
 obtain⟨wd,hwd⟩:∃x,x=wc:=⟨_,rfl⟩
 rw[←hwd] at hcut⊢
 obtain⟨hk1,f1⟩:=hcut
 have HR1:Hid (Rd wd a l):=Hd (HR.out.fr1 f1.out NE.out)
 have HE1:Hid (Env wd):=Hd (Xbr HE.out hb9 f1.out)
 clear hwd c72 IN HK0 HR
 go_wp2_with fail
 go_loopg [1,5] L (fun k v1 v5 wr=>∃(hc:Hs) (lc:List Nat) (ac:Option Addr) (cc m:Nat),k=m∧v1=.slice ac m cc∧m≤cc∧cc≤9223372036854775807∧Hid (m=lc.length)∧Hid (hc.Ok)∧Hid (HK wr b hc)∧Hid (Rd wr ac lc)∧Hid (∀ad,ac=some ad→0<lc.length→ad.block≠b)∧Hid (hc.len+lc.length≤1000000000)∧Hid (wrF h l=wrN lc.length hc lc)∧Hid (Fr1 b w wr))
 case atStart=>exact⟨h1,l,a,cap,L,rfl,rfl,hcap',by omega,HL,HO1,hk1,HR1,NE,Hd (by rw[LN.out,←HL.out];exact HLN.out),LAW,f1⟩
 case round=>
  obtain⟨hc,lc,ac,cc,m,rfl,rfl,hm,hcc,HM,OKc,HKc,RDc,NEc,LEc,LAWc,Fc⟩:=hrel
  clear hk1 f1 HR1 LAW
  by_cases h0:0<gk
  ·obtain⟨b',off,rfl,hbw,hcl⟩:=RDc.out.at_ (by rw[←HM.out];exact h0)
   have CL:=Hd hcl
   obtain⟨N,hN⟩:∃N,N=hc.len:=⟨_,rfl⟩
   have hN2:N≤1000000000:=by have:=LEc.out;omega
   obtain⟨p,hp⟩:∃p,p=N%64:=⟨_,rfl⟩
   have hp2:p<64:=by omega
   obtain⟨n,hn⟩:∃n,n=min (64-p) gk:=⟨_,rfl⟩
   have hn1:1≤n:=by omega
   have hn2:n≤gk:=by omega
   have hn3:p+n≤64:=by omega
   have jt:(N:Int).tmod 64=(p:Int):=by rw[Int.tmod_eq_emod_of_nonneg (by omega)];omega
   have p0:(0:Int)≤(p:Int):=by omega
   have p1:(p:Int)<64:=by omega
   have p2:(p:Int)≤64:=by omega
   have p3:¬(64=p):=by omega
   have hlcn:(lc.take n).length=n:=by rw[List.length_take,←HM.out];omega
   obtain⟨wY,hY⟩:∃wY,wY=wr.drew:=⟨_,rfl⟩
   have dY:Below wr.heap.size wr wY:=by rw[hY];exact(Below.refl _ _).drew
   have K1:=HKc.out.below dY
   have c72:wY.cell? ⟨b,72,none⟩=some (.int .i64 (N:Int)):=by rw[hN];exact K1.len OKc.out.blk.len
   have KY:=Hd K1
   have DY:=Hd dY
   have HN:=Hd hN;have HP:=Hd hp;have HNn:=Hd hn
   clear K1 dY hN hp hn hcl
   go_upto_region 6 with fail
   refine wp_region_still_tail 10 (by kernel_rfl) (by kernel_rfl) ?_
   simp only[List.take_succ_cons,List.take_zero,List.drop_succ_cons,List.drop_zero]
   change wpStill _ _ wr.drew (fun a'=>wpList _ _ _ _ a' wr.drew) _ _
   rw[←hY]
   clear hY
   repeat still_step
   refine wpStill_nil ?_
   have LB:=OKc.out.blk.len
   have CC:=Xu3 (h:=hc) LB (p:=p) (cs:=lc.take n) (by rw[hlcn];exact hn3)
   obtain⟨hd,hhd⟩:∃hd:Hs,hd=⟨hc.st,hc.blk.take p++lc.take n++hc.blk.drop (p+(lc.take n).length),hc.len⟩:=⟨_,rfl⟩
   rw[←hhd] at CC
   obtain⟨cs,hcs⟩:∃cs,cs=(lc.take n).map U:=⟨_,rfl⟩
   have csl:cs.length=n:=by rw[hcs,List.length_map,hlcn]
   rw[←hcs] at CC
   have SRC:Hid (∀j v,cs[j]?=some v→wY.cell? ((⟨b',off,none⟩:Addr).add j)=some v):=Hd (fun j v hv=>by
    have hj:j<n:=by rw[←csl];exact(List.getElem?_eq_some_iff.1 hv).1
    have hjl:j<lc.length:=by rw[←HM.out];omega
    rw[Addr.add_mid,DY.out.cell (p:=⟨b',off+j,none⟩) hbw,CL.out j hjl,←hv,hcs,List.getElem?_map,List.getElem?_take_of_lt hj,List.getElem?_eq_getElem hjl]
    rfl)
   have C1:Hid (∀v∈cs,v.oneCell'=true):=Hd (fun v hv=>by rw[hcs] at hv;obtain⟨y,_,rfl⟩:=List.mem_map.1 hv;rfl)
   have HFIT:Hid (8+p+cs.length≤(hC hc).size):=Hd (by rw[Xkc LB,csl];omega)
   have HMIN:Hid (cs.length=Nat.min gk (64-p)):=Hd (by rw[csl,HNn.out];exact Nat.min_comm _ _)
   have GI:Hid (goInt cs.length=.int .i64 (n:Int)):=Hd (by rw[csl];rfl)
   obtain⟨w1,hw1⟩:∃w1,w1=wY.setRow b ((hC hc).toList.take (8+p)++(cs++(hC hc).toList.drop (8+p+cs.length))).toArray:=⟨_,rfl⟩
   have CC2:=Hd CC
   have HD1:Hid (HK w1 b hd):=Hd (by rw[hw1,CC2.out];exact setRow_heap wY b _ _ _ _ KY.out)
   have F1:Hid (Fr1 b w w1):=Hd (Fc.out.trans ((Fr1.of_below DY.out).trans (by rw[hw1];exact⟨rfl,rfl,rfl,by simp[World.setRow],fun k hk hne=>setRow_other wY b k _ hne⟩)))
   have HW1:=Hd hw1
   have HCS:=Hd hcs;have HHD:=Hd hhd
   clear LB CC hhd hcs csl hw1 CC2 c72 jt hlcn CL
   refine wpList_copy_own rfl (.tmp 28) (.tmp 29) 62 62 rfl 5 Tryz.underlying62 (by kernel_rfl) b (8+p) (64-p) (64-p) ⟨b',off,none⟩ gk cc rfl rfl (hC hc) _ KY.out cs HMIN.out SRC.out HFIT.out C1.out ?_
   rw[GI.out,←HW1.out]
   obtain⟨oa,hoa⟩:∃oa:Option Addr,oa=if cc=n then some ⟨b',off,none⟩ else some ⟨b',off+n,none⟩:=⟨_,rfl⟩
   have hb'b:b'≠b:=NEc.out _ rfl (by rw[←HM.out];exact h0)
   have NE2:Hid (∀ad,oa=some ad→0<(lc.drop n).length→ad.block≠b):=Hd (fun ad e _=>by
    rw[hoa] at e
    by_cases e2:cc=n
    ·rw[if_pos e2] at e;cases e;exact hb'b
    ·rw[if_neg e2] at e;cases e;exact hb'b)
   have RD2:Hid (∀wx,Fr1 b wr wx→Rd wx oa (lc.drop n)):=Hd (fun wx hf=>by
    have r1:Rd wx (some ⟨b',off,none⟩) lc:=RDc.out.fr1 hf NEc.out
    rw[hoa]
    by_cases e:cc=n
    ·have:lc.drop n=[]:=List.drop_of_length_le (by rw[←HM.out];omega)
     rw[this];exact Rd.nil _ _
    ·rw[if_neg e];exact r1.drop)
   have n0:(0:Int)≤(n:Int):=by omega
   have nG:(n:Int)≤(gk:Int):=by omega
   have nC:n≤cc:=by omega
   have HOA:=Hd hoa
   have c1:w1.cell? ⟨b,72,none⟩=some (.int .i64 (N:Int)):=by
    have:=HD1.out.len (by rw[HHD.out];show(hc.blk.take p++lc.take n++hc.blk.drop (p+(lc.take n).length)).length=64;simp[OKc.out.blk.len];have:=HM.out;omega)
    rw[this,HHD.out];show some (Value.int .i64 (hc.len:Int))=_;rw[←HN.out]
   have f1:w1.frozen? ⟨b,72,none⟩=false:=Xd3 HD1.out 72
   have wN:IntKind.i64.wrap ((N:Int)+(n:Int))=(N:Int)+(n:Int):=IntWalk.i64_in _ (by omega)
   obtain⟨M,hM⟩:∃M,M=N+n:=⟨_,rfl⟩
   have eM:(N:Int)+(n:Int)=(M:Int):=by omega
   have FW:Hid (Fr1 b wr w1):=Hd ((Fr1.of_below DY.out).trans (by rw[HW1.out];exact⟨rfl,rfl,rfl,by simp[World.setRow],fun k hk hne=>setRow_other wY b k _ hne⟩))
   clear hoa
   go_upto_region 8 with fail
   rw[←HOA.out]
   clear HOA
   obtain⟨he,hhe⟩:∃he:Hs,he=⟨hd.st,hd.blk,M⟩:=⟨_,rfl⟩
   obtain⟨w2,hw2⟩:∃w2,w2=w1.setCell ⟨b,72,none⟩ (.int .i64 (M:Int)):=⟨_,rfl⟩
   have hdb:hd.blk.length=64:=by rw[HHD.out];show(hc.blk.take p++lc.take n++hc.blk.drop (p+(lc.take n).length)).length=64;simp[OKc.out.blk.len];have:=HM.out;omega
   have H2:Hid (HK w2 b he):=Hd (by rw[hw2,hhe];exact HD1.out.setLen hdb M)
   have F2:Hid (Fr1 b w w2):=Hd (F1.out.trans (by rw[hw2];exact Fr1.setC _))
   have FW2:Hid (Fr1 b wr w2):=Hd (FW.out.trans (by rw[hw2];exact Fr1.setC _))
   have c2:w2.cell? ⟨b,72,none⟩=some (.int .i64 (M:Int)):=by have:=H2.out.len (by rw[hhe];exact hdb);rw[this,hhe]
   have HW2:=Hd hw2
   have bl:hd.blk=hc.blk.take (hc.len%64)++lc.take (min (64-hc.len%64) lc.length)++hc.blk.drop (hc.len%64+min (64-hc.len%64) lc.length):=by
    rw[HHD.out,←HN.out,←HP.out,←HM.out,←HNn.out]
    show hc.blk.take p++lc.take n++hc.blk.drop (p+(lc.take n).length)=_
    rw[show(lc.take n).length=n by rw[List.length_take,←HM.out];omega]
   have BL:=Hd bl
   have WS:=Xnn OKc.out RDc.out.lt
   rw[←bl] at WS
   have OKe:Hid (he.Ok):=Hd (by rw[hhe];exact⟨by show W8.Ok hd.st;rw[HHD.out];exact OKc.out.st,WS.2⟩)
   have STEP:Hid (Xcu hc lc=⟨if M%64=0 then Xkz hc.st (ldF hd.blk) else hc.st,hd.blk,M⟩):=Hd (by
    unfold Xcu
    simp only[]
    rw[←bl,←HN.out,←HP.out,←HM.out,←HNn.out,←hM])
   have LAW2:Hid (wrF h l=wrN (lc.drop n).length (Xcu hc lc) (lc.drop n)):=Hd (by
    rw[LAWc.out,Xzw hc lc (by rw[←HM.out];exact h0),←HN.out,←HP.out,←HM.out,←HNn.out])
   have LEN2:Hid (gk-n=(lc.drop n).length):=Hd (by rw[List.length_drop,←HM.out])
   have LE2:Hid (M+(lc.drop n).length≤1000000000):=Hd (by have:=LEc.out;rw[←HN.out,←HM.out] at this;rw[←LEN2.out,hM];omega)
   have HHE:=Hd hhe
   have HST:Hid (he.st=hc.st):=Hd (by rw[hhe,HHD.out])
   have HE2:Hid (Env w2):=Hd (Xbr HE.out hb9 F2.out)
   have WS1:=Hd WS.1
   clear hhe hw2 hdb bl WS hM
   go_upto_region 9 with fail
   rw[←HW2.out]
   clear HW2 c1 f1 HD1 HHD
   by_cases e64:M%64=0
   ·have jm:(M:Int).tmod 64=0:=by rw[Int.tmod_eq_emod_of_nonneg (by omega)];omega
    have S2:Hid (Xcu hc lc=⟨Xkz he.st (ldF he.blk),he.blk,he.len⟩):=Hd (by rw[STEP.out,if_pos e64,HST.out,HHE.out])
    clear e64
    obtain⟨wZ,hZ⟩:∃wZ,wZ=w2.drew:=⟨_,rfl⟩
    have dZ:Below w2.heap.size w2 wZ:=by rw[hZ];exact(Below.refl _ _).drew
    have DZ:=Hd dZ
    have HZ:=Hd (H2.out.below dZ)
    have EZ:=Hd (HE2.out.on dZ)
    have LS:Hid (∀wx,HK wx b he→(loadVar 176 ⟨b,0,none⟩).run Tryz.prog wx=.ok (.agg (wC he.st)) wx):=Hd (fun wx hx=>HK.st hx)
    have LB:Hid (∀wx,HK wx b he→(loadVar 177 ⟨b,8,none⟩).run Tryz.prog wx=.ok (.agg (idA he.blk)) wx):=Hd (fun wx hx=>HK.blk hx OKe.out.blk.len)
    have LDC:=Hd (Ybj wZ OKe.out.blk)
    have L6:Hid (L16 (ldF he.blk)):=Hd (Xxi OKe.out.blk.lt 64)
    have PRC:Hid (∀wx,Below wZ.heap.size wZ wx→Calls Tryz.prog 122 #[.agg (wC he.st),.agg (wA (ldF he.blk))] wx fun e w'=>e=.returned (.agg (wC (Xkz he.st (ldF he.blk))))∧Below wx.heap.size wx w'):=Hd (fun wx hb=>Xp2 wx OKe.out.st L6.out (EZ.out.on hb))
    have FIN:Hid (∀wx,Below wZ.heap.size wZ wx→(storeVar 176 ⟨b,0,none⟩ (.agg (wC (Xkz he.st (ldF he.blk))))).run Tryz.prog wx=.ok () (wx.setRow b (hC (Xcu hc lc)))∧HK (wx.setRow b (hC (Xcu hc lc))) b (Xcu hc lc)∧Fr1 b w2 (wx.setRow b (hC (Xcu hc lc)))):=Hd (fun wx hb=>by
     rw[S2.out]
     obtain⟨s1,s2⟩:=(HZ.out.below hb).setSt (Xkz he.st (ldF he.blk))
     exact⟨s1,s2,(Fr1.of_below DZ.out).trans ((Fr1.of_below hb).trans ⟨rfl,rfl,rfl,by simp[World.setRow],fun k hk hne=>setRow_other wx b k _ hne⟩)⟩)
    have LENE:Hid ((Xcu hc lc).len=M):=Hd (by rw[STEP.out])
    obtain⟨v1,hv1⟩:∃v1,v1=wC he.st:=⟨_,rfl⟩
    obtain⟨v2,hv2⟩:∃v2,v2=idA he.blk:=⟨_,rfl⟩
    obtain⟨v3,hv3⟩:∃v3,v3=wA (ldF he.blk):=⟨_,rfl⟩
    obtain⟨v4,hv4⟩:∃v4,v4=wC (Xkz he.st (ldF he.blk)):=⟨_,rfl⟩
    rw[←hv1] at LS PRC
    rw[←hv2] at LB LDC
    rw[←hv3] at LDC PRC
    rw[←hv4] at PRC FIN
    clear hv1 hv2 hv3 hv4 dZ S2 STEP
    go_upto_region 10 with fail
    refine wp_region_any (by kernel_rfl) ?_
    change wpAny _ _ _ _ _ _ _ w2.drew
    rw[←hZ]
    clear hZ c2
    refine wpAny_take (i:=0) (v:=.pointer (some ⟨b,0,none⟩)) rfl (by kernel_rfl) (by kernel_rfl) (by kernel_rfl) (fun _ _ _ h=>h) (Or.inl ⟨by kernel_rfl,fun w'=>by go_simp⟩) ?_
    refine wpAny_take (i:=1) (v:=.pointer (some ⟨b,0,none⟩)) rfl (by kernel_rfl) (by kernel_rfl) (by kernel_rfl) (fun _ _ _ h=>h) (Or.inl ⟨by kernel_rfl,fun w'=>by go_simp⟩) ?_
    refine wpAny_take (i:=2) (v:=.pointer (some ⟨b,0,none⟩)) rfl (by kernel_rfl) (by kernel_rfl) (by kernel_rfl) (fun _ _ _ h=>h) (Or.inl ⟨by kernel_rfl,fun w'=>by go_simp⟩) ?_
    refine wpAny_take (i:=3) (v:=.pointer (some ⟨b,0,none⟩)) rfl (by kernel_rfl) (by kernel_rfl) (by kernel_rfl) (fun _ _ _ h=>h) (Or.inl ⟨by kernel_rfl,fun w'=>by go_simp⟩) ?_
    refine wpAny_take (i:=5) (v:=.pointer (some ⟨b,0,none⟩)) rfl (by kernel_rfl) (by kernel_rfl) (by kernel_rfl) (fun _ _ _ h=>h) (Or.inl ⟨by kernel_rfl,fun w'=>by go_simp⟩) ?_
    refine wpAny_take (i:=6) (v:=.pointer (some ⟨b,0,none⟩)) rfl (by kernel_rfl) (by kernel_rfl) (by kernel_rfl) (fun _ _ _ h=>h) (Or.inl ⟨by kernel_rfl,fun w'=>by go_simp⟩) ?_
    refine wpAny_take (i:=7) (v:=.pointer (some ⟨b,8,none⟩)) rfl (by kernel_rfl) (by kernel_rfl) (by kernel_rfl) (fun _ _ _ h=>h) (Or.inl ⟨by kernel_rfl,fun w'=>by go_simp⟩) ?_
    refine Xnf (i:=4) (k:=8) (by kernel_rfl) ?_ ?_
    ·refine Xbm rfl rfl (Xaw (ty:=176) (x:=.tmp 51) (ad:=⟨b,0,none⟩) rfl (by kernel_rfl) (LS.out _ HZ.out)) ?_
     refine Xbc (i:=8) (by kernel_rfl) ?_
     refine Xbm rfl rfl (Xaw (ty:=177) (x:=.tmp 55) (ad:=⟨b,8,none⟩) rfl (by kernel_rfl) (LB.out _ HZ.out)) ?_
     refine Xbc (i:=9) (by kernel_rfl) ?_
     refine Xao (f:=123) (args:=#[.agg v2]) rfl rfl (by kernel_rfl) ?_
     refine LDC.out.mono ?_
     rintro e w3 ⟨rfl,hb3⟩
     have P3:=Hd (PRC.out w3 hb3)
     have B3:=Hd hb3
     have H3:=Hd (HZ.out.below hb3)
     refine⟨_,rfl,?_⟩
     clear hb3
     refine Xbc (i:=10) (by kernel_rfl) ?_
     refine Xao (f:=122) (args:=#[.agg v1,.agg v3]) rfl rfl (by kernel_rfl) ?_
     refine P3.out.mono ?_
     rintro e w4 ⟨rfl,hb4⟩
     have hb34:=B3.out.trans (hb4.mono B3.out.size)
     obtain⟨g1,g2,g3⟩:=FIN.out w4 hb34
     obtain⟨w5,hw5⟩:∃w5,w5=w4.setRow b (hC (Xcu hc lc)):=⟨_,rfl⟩
     rw[←hw5] at g1 g2 g3
     have G1:=Hd g1;have G2:=Hd g2;have G3:=Hd g3
     refine⟨_,rfl,?_⟩
     clear g1 g2 g3 hw5 hb4 P3 FIN B3 hb34 H3
     refine Xbc (i:=11) (by kernel_rfl) ?_
     refine Xbm (v:=.pointer (some ⟨b,0,none⟩)) rfl rfl (by kernel_rfl) ?_
     refine Xbc (i:=12) (by kernel_rfl) ?_
     refine Xbm (v:=.pointer (some ⟨b,0,none⟩)) rfl rfl (by kernel_rfl) ?_
     refine Xbc (i:=13) (by kernel_rfl) ?_
     refine Xdb rfl rfl (Xax (t:=176) (x:=.tmp 60) (y:=.tmp 58) (ad:=⟨b,0,none⟩) (u:=.agg v4) rfl (by kernel_rfl) (by kernel_rfl) G1.out) ?_
     refine wpAny_done (by kernel_rfl) ?_ _
     go_simp
     refine‹∀(a:Act) (w_1:World),_→_› _ _ ?_
     go_wp2_with fail
     go_roundg (gk-n)
     case measure=>omega
     case rel=>exact⟨Xcu hc lc,lc.drop n,oa,cc-n,gk-n,rfl,rfl,by omega,by omega,LEN2,WS1,G2,Hd (RD2.out w5 (FW2.out.trans G3.out)),NE2,Hd (by rw[LENE.out];exact LE2.out),LAW2,Hd (F2.out.trans G3.out)⟩
    ·refine Xbm rfl rfl (Xaw (ty:=177) (x:=.tmp 55) (ad:=⟨b,8,none⟩) rfl (by kernel_rfl) (LB.out _ HZ.out)) ?_
     refine Xnf (i:=4) (k:=9) (by kernel_rfl) ?_ ?_
     ·refine Xbm rfl rfl (Xaw (ty:=176) (x:=.tmp 51) (ad:=⟨b,0,none⟩) rfl (by kernel_rfl) (LS.out _ HZ.out)) ?_
      refine Xbc (i:=9) (by kernel_rfl) ?_
      refine Xao (f:=123) (args:=#[.agg v2]) rfl rfl (by kernel_rfl) ?_
      refine LDC.out.mono ?_
      rintro e w3 ⟨rfl,hb3⟩
      have P3:=Hd (PRC.out w3 hb3)
      have B3:=Hd hb3
      have H3:=Hd (HZ.out.below hb3)
      refine⟨_,rfl,?_⟩
      clear hb3
      refine Xbc (i:=10) (by kernel_rfl) ?_
      refine Xao (f:=122) (args:=#[.agg v1,.agg v3]) rfl rfl (by kernel_rfl) ?_
      refine P3.out.mono ?_
      rintro e w4 ⟨rfl,hb4⟩
      have hb34:=B3.out.trans (hb4.mono B3.out.size)
      obtain⟨g1,g2,g3⟩:=FIN.out w4 hb34
      obtain⟨w5,hw5⟩:∃w5,w5=w4.setRow b (hC (Xcu hc lc)):=⟨_,rfl⟩
      rw[←hw5] at g1 g2 g3
      have G1:=Hd g1;have G2:=Hd g2;have G3:=Hd g3
      refine⟨_,rfl,?_⟩
      clear g1 g2 g3 hw5 hb4 P3 FIN B3 hb34 H3
      refine Xbc (i:=11) (by kernel_rfl) ?_
      refine Xbm (v:=.pointer (some ⟨b,0,none⟩)) rfl rfl (by kernel_rfl) ?_
      refine Xbc (i:=12) (by kernel_rfl) ?_
      refine Xbm (v:=.pointer (some ⟨b,0,none⟩)) rfl rfl (by kernel_rfl) ?_
      refine Xbc (i:=13) (by kernel_rfl) ?_
      refine Xdb rfl rfl (Xax (t:=176) (x:=.tmp 60) (y:=.tmp 58) (ad:=⟨b,0,none⟩) (u:=.agg v4) rfl (by kernel_rfl) (by kernel_rfl) G1.out) ?_
      refine wpAny_done (by kernel_rfl) ?_ _
      go_simp
      refine‹∀(a:Act) (w_1:World),_→_› _ _ ?_
      go_wp2_with fail
      go_roundg (gk-n)
      case measure=>omega
      case rel=>exact⟨Xcu hc lc,lc.drop n,oa,cc-n,gk-n,rfl,rfl,by omega,by omega,LEN2,WS1,G2,Hd (RD2.out w5 (FW2.out.trans G3.out)),NE2,Hd (by rw[LENE.out];exact LE2.out),LAW2,Hd (F2.out.trans G3.out)⟩
     ·refine Xao (f:=123) (args:=#[.agg v2]) rfl rfl (by kernel_rfl) ?_
      refine LDC.out.mono ?_
      rintro e w3 ⟨rfl,hb3⟩
      have P3:=Hd (PRC.out w3 hb3)
      have B3:=Hd hb3
      have H3:=Hd (HZ.out.below hb3)
      refine⟨_,rfl,?_⟩
      clear hb3
      refine Xbc (i:=4) (by kernel_rfl) ?_
      refine Xbm rfl rfl (Xaw (ty:=176) (x:=.tmp 51) (ad:=⟨b,0,none⟩) rfl (by kernel_rfl) (LS.out _ H3.out)) ?_
      refine Xbc (i:=10) (by kernel_rfl) ?_
      refine Xao (f:=122) (args:=#[.agg v1,.agg v3]) rfl rfl (by kernel_rfl) ?_
      refine P3.out.mono ?_
      rintro e w4 ⟨rfl,hb4⟩
      have hb34:=B3.out.trans (hb4.mono B3.out.size)
      obtain⟨g1,g2,g3⟩:=FIN.out w4 hb34
      obtain⟨w5,hw5⟩:∃w5,w5=w4.setRow b (hC (Xcu hc lc)):=⟨_,rfl⟩
      rw[←hw5] at g1 g2 g3
      have G1:=Hd g1;have G2:=Hd g2;have G3:=Hd g3
      refine⟨_,rfl,?_⟩
      clear g1 g2 g3 hw5 hb4 P3 FIN B3 hb34 H3
      refine Xbc (i:=11) (by kernel_rfl) ?_
      refine Xbm (v:=.pointer (some ⟨b,0,none⟩)) rfl rfl (by kernel_rfl) ?_
      refine Xbc (i:=12) (by kernel_rfl) ?_
      refine Xbm (v:=.pointer (some ⟨b,0,none⟩)) rfl rfl (by kernel_rfl) ?_
      refine Xbc (i:=13) (by kernel_rfl) ?_
      refine Xdb rfl rfl (Xax (t:=176) (x:=.tmp 60) (y:=.tmp 58) (ad:=⟨b,0,none⟩) (u:=.agg v4) rfl (by kernel_rfl) (by kernel_rfl) G1.out) ?_
      refine wpAny_done (by kernel_rfl) ?_ _
      go_simp
      refine‹∀(a:Act) (w_1:World),_→_› _ _ ?_
      go_wp2_with fail
      go_roundg (gk-n)
      case measure=>omega
      case rel=>exact⟨Xcu hc lc,lc.drop n,oa,cc-n,gk-n,rfl,rfl,by omega,by omega,LEN2,WS1,G2,Hd (RD2.out w5 (FW2.out.trans G3.out)),NE2,Hd (by rw[LENE.out];exact LE2.out),LAW2,Hd (F2.out.trans G3.out)⟩
   ·have jm:(M:Int).tmod 64=((M%64:Nat):Int):=by rw[Int.tmod_eq_emod_of_nonneg (by omega)];omega
    obtain⟨r,hr⟩:∃r,r=M%64:=⟨_,rfl⟩
    rw[←hr] at jm e64
    have hz:((r:Int)==0)=false:=Xak (by omega)
    have S2:Hid (Xcu hc lc=he):=Hd (by rw[STEP.out,if_neg (by rw[←hr];exact e64),HHE.out,←HST.out,HHE.out])
    clear hr
    go_wp2_with fail
    go_roundg (gk-n)
    case measure=>omega
    case rel=>exact⟨he,lc.drop n,oa,cc-n,gk-n,rfl,rfl,by omega,by omega,LEN2,OKe,H2,Hd (RD2.out w2 FW2.out),NE2,Hd (by rw[HHE.out];exact LE2.out),Hd (by rw[LAW2.out,S2.out]),F2⟩
  ·obtain rfl:gk=0:=by omega
   have hnil:lc=[]:=List.eq_nil_of_length_eq_zero HM.out.symm
   have FIN:Hid (wrF h l=hc):=Hd (by rw[LAWc.out,hnil];rfl)
   go_wp2_with fail
   go_ret
   exact⟨⟨_,rfl⟩,by rw[FIN.out];exact HKc.out,Fc.out⟩
theorem Yg8 {w:World} {B n cap:Nat} {a:Option Addr} {xs:List Nat} (h:w.ownsRow B 5 1 (.slice a n cap) n (xs.map U)) (hx:∀x∈xs,x<256):Rd w a xs:=by
 have hl:=h.1
 rw[Nat.mul_one,List.length_map] at hl
 rcases h.2 with⟨e,_⟩|⟨g,c,cur,e,_,hg,_,_,_,ht⟩
 ·cases e
  exact⟨hx,fun h0=>by omega⟩
 ·cases e
  refine⟨hx,fun h0=>⟨g,0,rfl,lt_of_block hg,fun i hi=>?_⟩⟩
  rw[cell_of_row w g (0+i) _ _ _ hg,Nat.zero_add]
  have:=congrArg (fun z=>z[i]?) ht
  simp only[List.getElem?_map,List.getElem?_eq_getElem hi,Option.map_some] at this
  rw[←this,Nat.mul_one,List.getElem?_take_of_lt (by omega)]
  simp
def Yii (len k:Nat):Nat:=(8*len%18446744073709551616)/2^(56-8*k)%256
def Xpk (len k:Nat):List Nat:=128::List.replicate (Yhd len) 0++(List.range k).map (Yii len)
theorem Xw2 (len k:Nat):Xpk len (k+1)=Xpk len k++[Yii len k]:=by simp[Xpk,List.range_succ]
theorem Xsc (len:Nat):Xpk len 8=Xw4 len:=rfl
theorem Xw3 (len:Nat):∀x∈Xw4 len,x<256:=by
 intro x hx
 rw[←Xsc] at hx
 unfold Xpk Yii at hx
 simp only[List.cons_append,List.mem_cons,List.mem_append,List.mem_replicate,List.mem_map] at hx
 rcases hx with rfl|⟨_,rfl⟩|⟨k,_,rfl⟩
 ·decide
 ·decide
 ·exact Nat.mod_lt _ (by decide)
theorem Ya2 (len:Nat):(Xw4 len).length≤100:=by
 rw[←Xsc];simp[Xpk,Yhd];omega
theorem OW.slice {B:Nat} {xs:List Nat} {v:Value} {w:World} (h:OW B xs v w) (h0:0<xs.length):∃g c,v=.slice (some ⟨g,0,none⟩) xs.length c∧xs.length≤c∧c≤maxLen∧B≤g∧g<w.heap.size:=by
 rcases h.2 with⟨_,e⟩|⟨g,c,cur,e,hb,hg,hc,hm,_,_⟩
 ·omega
 ·exact⟨g,c,e,hc,hm,hb,lt_of_block hg⟩
theorem Ydl:hC hs0=#[.int .u32 0,.int .u32 0,.int .u32 0,.int .u32 0,.int .u32 0,.int .u32 0,.int .u32 0,.int .u32 0,.int .u8 0,.int .u8 0,.int .u8 0,.int .u8 0,.int .u8 0,.int .u8 0,.int .u8 0,.int .u8 0,.int .u8 0,.int .u8 0,.int .u8 0,.int .u8 0,.int .u8 0,.int .u8 0,.int .u8 0,.int .u8 0,.int .u8 0,.int .u8 0,.int .u8 0,.int .u8 0,.int .u8 0,.int .u8 0,.int .u8 0,.int .u8 0,.int .u8 0,.int .u8 0,.int .u8 0,.int .u8 0,.int .u8 0,.int .u8 0,.int .u8 0,.int .u8 0,.int .u8 0,.int .u8 0,.int .u8 0,.int .u8 0,.int .u8 0,.int .u8 0,.int .u8 0,.int .u8 0,.int .u8 0,.int .u8 0,.int .u8 0,.int .u8 0,.int .u8 0,.int .u8 0,.int .u8 0,.int .u8 0,.int .u8 0,.int .u8 0,.int .u8 0,.int .u8 0,.int .u8 0,.int .u8 0,.int .u8 0,.int .u8 0,.int .u8 0,.int .u8 0,.int .u8 0,.int .u8 0,.int .u8 0,.int .u8 0,.int .u8 0,.int .u8 0,.int .i64 0]:=by rfl
theorem Rd.onB {w w':World} {a:Option Addr} {l:List Nat} (h:Rd w a l) (hb:Below w.heap.size w w'):Rd w' a l:=by
 refine⟨h.lt,fun h0=>?_⟩
 obtain⟨b,off,rfl,hbw,hc⟩:=h.at_ h0
 exact⟨b,off,rfl,Nat.lt_of_lt_of_le hbw hb.size,fun i hi=>(hb.cell (by exact hbw)).trans (hc i hi)⟩
theorem Yhc (n:Nat):Xpk n 0=128::List.replicate (Yhd n) 0:=by simp[Xpk]
theorem Xwp (k:Nat):128::List.replicate (k+1) 0=(128::List.replicate k 0)++[0]:=by rw[List.replicate_succ'];rfl
set_option maxHeartbeats 4000000 in
theorem Ybu (w:World) (b:Nat) (h:Hs) (hk:HK w b h) (ho:h.Ok) (hl:h.len≤100000000) (hE:Env w):
    Calls Tryz.prog 74 #[.pointer (some ⟨b,0,none⟩)] w fun e w'=>e=.returned (.agg (idA (smF h)))∧Below w.heap.size w w':=by
 obtain⟨i0,hi0,hz0,hz1,hz2⟩:=info_parts Xio
 have hb:=hk.lt
 obtain⟨zs,hzs⟩:∃zs,zs=idA (List.replicate 32 0):=⟨_,rfl⟩
 have Z0:Hid (zs=#[.int .u8 0,.int .u8 0,.int .u8 0,.int .u8 0,.int .u8 0,.int .u8 0,.int .u8 0,.int .u8 0,.int .u8 0,.int .u8 0,.int .u8 0,.int .u8 0,.int .u8 0,.int .u8 0,.int .u8 0,.int .u8 0,.int .u8 0,.int .u8 0,.int .u8 0,.int .u8 0,.int .u8 0,.int .u8 0,.int .u8 0,.int .u8 0,.int .u8 0,.int .u8 0,.int .u8 0,.int .u8 0,.int .u8 0,.int .u8 0,.int .u8 0,.int .u8 0]):=Hd (by rw[hzs];rfl)
 obtain⟨wA,hwA⟩:∃wA,wA=w.alloc (.cells zs 60):=⟨_,rfl⟩
 have BA:Hid (Below w.heap.size w wA):=Hd (by rw[hwA];exact(Below.refl _ _).alloc (Nat.le_refl _) _)
 have RA:Hid (IB wA w.heap.size 60 (List.replicate 32 0)):=Hd (by unfold IB;rw[hwA,←hzs];exact heap_alloc_last w _)
 have SA:wA.heap.size=w.heap.size+1:=by rw[hwA];simp
 have HKA:Hid (HK wA b h):=Hd (hk.below BA.out)
 have WA:=Hd hwA
 obtain⟨n,hn⟩:∃n,n=h.len:=⟨_,rfl⟩
 have HN:=Hd hn
 rw[←hn] at hl
 have HO:=Hd ho;have HE:=Hd hE
 clear hwA hzs hk hn ho hE
 go_enter Tryz.func74,Tryz.ntmps74
 go_upto_region 3 with fail
 have WA':=WA.out
 rw[Z0.out] at WA'
 rw[←WA']
 clear WA' WA
 have SA':=Hd SA
 go_wp2_with fail
 have O1:Hid (OW (w.heap.size+1) [128] (.slice (some ⟨w.heap.size+1,0,none⟩) 1 1) (wA.alloc (.cells #[.int .u8 128] 5))):=Hd (by
  have:=heap_alloc_last wA (.cells #[.int .u8 128] 5)
  rw[SA'.out] at this
  exact⟨rfl,.inr ⟨w.heap.size+1,1,#[.int .u8 128],rfl,Nat.le_refl _,this,Nat.le_refl _,by decide,rfl,rfl⟩⟩)
 have B1:Hid (Below (w.heap.size+1) wA (wA.alloc (.cells #[.int .u8 128] 5))):=Hd ((Below.refl _ _).alloc (by rw[SA'.out];exact Nat.le_refl _) _)
 obtain⟨P,hP⟩:∃P,P=Yhd n:=⟨_,rfl⟩
 have hP2:P=(119-n%64)%64:=hP
 go_loopg [3] P (fun k v wr=>∃j:Nat,j≤P∧k=P-j∧Hid (OW (w.heap.size+1) (128::List.replicate j 0) v wr)∧Hid (Below (w.heap.size+1) wA wr))
 case atStart=>exact⟨0,by omega,rfl,O1,B1⟩
 case round=>
  clear O1 B1
  obtain⟨j,hj,rfl,ow,bw⟩:=hrel
  have c72:wr.cell? ⟨b,72,none⟩=some (.int .i64 (n:Int)):=by
   rw[HN.out];exact HK.len ((bw.out.block b (by omega)).trans HKA.out) HO.out.blk.len
  obtain⟨g,c,rfl,hgc,hcm,hBg,hgw⟩:=ow.out.slice (by simp)
  obtain⟨m,hm⟩:∃m,m=j+1:=⟨_,rfl⟩
  have hml:(128::List.replicate j 0:List Nat).length=m:=by simp[hm]
  rw[hml] at ow hgc⊢
  have hsz:w.heap.size+1≤wr.heap.size:=by have:=bw.out.size;omega
  obtain⟨r,hr⟩:∃r,r=(n+m)%64:=⟨_,rfl⟩
  have jt:((n:Int)+(m:Int)).tmod 64=(r:Int):=by rw[Int.tmod_eq_emod_of_nonneg (by omega)];omega
  have wN:IntKind.i64.wrap ((n:Int)+(m:Int))=(n:Int)+(m:Int):=IntWalk.i64_in _ (by omega)
  have OWN:Hid (wr.ownsRow (w.heap.size+1) 5 1 (.slice (some ⟨g,0,none⟩) m c) m ((128::List.replicate j 0:List Nat).map U)):=Hd (by have:=ow.out;unfold OW at this;rw[hml] at this;exact this)
  have hP63:P≤63:=by omega
  have hm64:m≤64:=by omega
  obtain⟨xs,hxs⟩:∃xs,xs=(128::List.replicate j 0:List Nat):=⟨_,rfl⟩
  by_cases hlt:j<P
  ·have hne:((r:Int) !=56)=true:=by
      have:r≠56:=by omega
      simpa using(by omega:¬((r:Int)=56))
   have FIN:Hid (∀(v':Value) (w1:World),w1.ownsRow (w.heap.size+1) 5 1 v' (m+1) (xs.map U++[.int .u8 0])→(wr.alloc (.cells #[.int .u8 0] 5)).grownBy w1 (Value.slice (some ⟨g,0,none⟩) m c).ownBlock→OW (w.heap.size+1) (128::List.replicate (j+1) 0) v' w1∧Below (w.heap.size+1) wA w1):=Hd (fun v' w1 h1 h2=>⟨by
       rw[Xwp,←hxs];rw[hxs] at h1⊢;rw[←hml] at h1;exact OW.app (ys:=[0]) rfl rfl h1,Xfl bw.out hsz (Nat.le_refl _) ow.out h2⟩)
   rw[←hxs] at OWN
   have HP:=Hd hP2
   clear hr hm hP2 hP hml SA hxs hgc
   go_wp2_with (at_builtin;refine wpList_append_own _ rfl _ _ 62 rfl (w.heap.size+1) 5 i0 (.int .u8 0) 1 1 Tryz.underlying62 hi0 hz0 hz1 hz2 rfl (by decide) _ _ _ rfl (OWN.out.alloc _) ⟨wr.heap.size,0,none⟩ 1 1 [.int .u8 0] rfl rfl (World.news_of_block (cs:=#[.int .u8 0]) (t:=5) (fr:=(0,0)) (heap_alloc_new wr _)) (by simp[Value.oneCell']) (by unfold maxLen;omega) (by omega) (by simp;omega) ?_;intro v' w3 hown' hgrow _)
   have F:=Hd (FIN.out _ w3 hown' hgrow)
   clear hown' hgrow FIN
   go_wp2_with fail
   go_roundg (P-(j+1))
   case measure=>omega
   case rel=>exact⟨j+1,by omega,rfl,Hd F.out.1,Hd F.out.2⟩
  ·obtain rfl:j=P:=by omega
   have he:((r:Int) !=56)=false:=by
    have:r=56:=by omega
    rw[this];rfl
   have O2:Hid (OW (w.heap.size+1) (Xpk n 0) (.slice (some ⟨g,0,none⟩) m c) wr):=Hd (by rw[Yhc,←hP];exact ow.out)
   have B2:=Hd bw.out
   obtain⟨C,hC⟩:∃C,C=8*n:=⟨_,rfl⟩
   have eC:(8*(n:Int))%18446744073709551616=(C:Int):=by omega
   have eC2:(8*(n:Int))=(C:Int):=by omega
   have hC2:C≤800000000:=by omega
   have n64:(n:Int)%18446744073709551616=(n:Int):=by omega
   have PL:=Hd (Ya2 n)
   have HCN:=Hd hC
   have hPN:Hid (∀q,(Xpk n q).length=1+j+q):=Hd (fun q=>by unfold Xpk;rw[←hP];simp;omega)
   clear hr hm hP2 hP hml SA hxs OWN hgc ow bw hC
   go_wp2_with fail
   go_loopg [3,5,29] 8 (fun k v v5 i wq=>∃q:Nat,q≤8∧k=8-q∧i=.int .i64 (q:Int)∧Hid (OW (w.heap.size+1) (Xpk n q) v wq)∧Hid (Below (w.heap.size+1) wA wq))
   case atStart=>exact⟨0,by omega,rfl,rfl,O2,B2⟩
   case round=>
    clear O2 B2 c72 he jt wN
    obtain⟨q,hq,rfl,rfl,ow,bw⟩:=hrel
    by_cases hq8:q<8
    ·have hgs:∃g c,u3=.slice (some ⟨g,0,none⟩) (1+j+q) c:=by
        obtain⟨g,c,h1,_⟩:=ow.out.slice (by rw[hPN.out];omega)
        rw[hPN.out] at h1
        exact⟨g,c,h1⟩
     obtain⟨g2,c2,rfl⟩:=hgs
     obtain⟨r2,hr2⟩:∃r2,r2=56-8*q:=⟨_,rfl⟩
     have e56:(56:Int)-8*(q:Int)=(r2:Int):=by omega
     obtain⟨y,hy⟩:∃y,y=Yii n q:=⟨_,rfl⟩
     have YI:Hid (((y:Nat):Int)=(C:Int)/2^r2%256):=Hd (by
      rw[hy,Yii,←HCN.out,←hr2,show C%18446744073709551616=C from Nat.mod_eq_of_lt (by omega),Int.natCast_emod,Int.natCast_ediv,Int.natCast_pow];rfl)
     have OWN:Hid (wr.ownsRow (w.heap.size+1) 5 1 (.slice (some ⟨g2,0,none⟩) (1+j+q) c2) (1+j+q) ((Xpk n q).map U)):=Hd (by have:=ow.out;unfold OW at this;rw[hPN.out] at this;exact this)
     have hsz:w.heap.size+1≤wr.heap.size:=by have:=bw.out.size;have:=SA'.out;omega
     have FIN:Hid (∀(v':Value) (w1:World) (z:Value),z=.int .u8 (y:Int)→w1.ownsRow (w.heap.size+1) 5 1 v' ((1+j+q)+1) ((Xpk n q).map U++[z])→(wr.alloc (.cells #[z] 5)).grownBy w1 (Value.slice (some ⟨g2,0,none⟩) (1+j+q) c2).ownBlock→OW (w.heap.size+1) (Xpk n (q+1)) v' w1∧Below (w.heap.size+1) wA w1):=Hd (fun v' w1 z hz h1 h2=>⟨by
         subst hz;rw[Xw2,←hy];rw[←hPN.out q] at h1;exact OW.app (ys:=[y]) rfl rfl h1,Xfl bw.out hsz (Nat.le_refl _) ow.out h2⟩)
     obtain⟨ps,hps⟩:∃ps,ps=(Xpk n q).map U:=⟨_,rfl⟩
     rw[←hps] at OWN FIN
     obtain⟨m2,hm2⟩:∃m2,m2=1+j+q:=⟨_,rfl⟩
     rw[←hm2] at OWN FIN⊢
     have hm3:m2≤100:=by omega
     have hYZ:Hid (Value.int .u8 ((C:Int)/2^r2%256)=.int .u8 (y:Int)):=Hd (by rw[YI.out])
     clear hr2 hy hps hm2 ow bw
     go_wp2_with (at_builtin;refine wpList_append_own _ rfl _ _ 62 rfl (w.heap.size+1) 5 i0 (.int .u8 0) 1 1 Tryz.underlying62 hi0 hz0 hz1 hz2 rfl (by decide) _ _ _ rfl (OWN.out.alloc _) ⟨wr.heap.size,0,none⟩ 1 1 [.int .u8 ((C:Int)/2^r2%256)] rfl rfl (World.news_of_block (cs:=#[.int .u8 ((C:Int)/2^r2%256)]) (t:=5) (fr:=(0,0)) (heap_alloc_new wr _)) (by simp[Value.oneCell']) (by unfold maxLen;omega) (by omega) (by simp;omega) ?_;intro v' w3 hown' hgrow _)
     have F:=Hd (FIN.out _ w3 _ hYZ.out hown' hgrow)
     clear hown' hgrow FIN
     go_wp2_with fail
     go_roundg (8-(q+1))
     case measure=>omega
     case rel=>exact⟨q+1,by omega,rfl,by go_num,Hd F.out.1,Hd F.out.2⟩
    ·obtain rfl:q=8:=by omega
     obtain⟨g2,c2,rfl,hgc2,hcm2,hBg2,hgw2⟩:=ow.out.slice (by rw[hPN.out];omega)
     have OWN:=ow.out
     unfold OW at OWN
     rw[hPN.out] at OWN hgc2⊢
     rw[Xsc] at OWN
     have RD:Hid (Rd wr (some ⟨g2,0,none⟩) (Xw4 n)):=Hd (Yg8 OWN (Xw3 n))
     have PLN:Hid ((Xw4 n).length=1+j+8):=Hd (by rw[←Xsc];exact hPN.out 8)
     have HKq:Hid (HK wr b h):=Hd ((bw.out.block b (by have:=SA'.out;omega)).trans HKA.out)
     have LD:=Hd (HKq.out.all HO.out.blk.len)
     have h9:=HE.out.size
     have hwz:w.heap.size+1≤wr.heap.size:=by have:=bw.out.size;have:=SA'.out;omega
     obtain⟨w4,hw4⟩:∃w4,w4=wr.alloc (.cells (hC hs0) 179):=⟨_,rfl⟩
     have H4:HK w4 wr.heap.size hs0:=by rw[hw4];exact heap_alloc_last wr _
     have ST0:(storeVar 179 ⟨wr.heap.size,0,none⟩ (.agg (hC h))).run Tryz.prog w4=.ok () (w4.setRow wr.heap.size (hC h)):=run_storeVar_row w4 wr.heap.size _ 179 _ _ H4 (by rw[Xkc HO.out.blk.len];exact Xnu) (by rw[Xkc HO.out.blk.len,Xkc (by simp[hs0])]) (Yh5 h)
     obtain⟨w5,hw5⟩:∃w5,w5=w4.setRow wr.heap.size (hC h):=⟨_,rfl⟩
     have H5:HK w5 wr.heap.size h:=by rw[hw5];exact setRow_heap w4 _ _ _ _ _ H4
     have B5:Below wr.heap.size wr w5:=by rw[hw5,hw4];exact below_setRow ((Below.refl _ _).alloc (Nat.le_refl _) _) (Nat.le_refl _) _
     have ST:Hid ((storeVar 179 ⟨wr.heap.size,0,none⟩ (.agg (hC h))).run Tryz.prog (wr.alloc (.cells #[.int .u32 0,.int .u32 0,.int .u32 0,.int .u32 0,.int .u32 0,.int .u32 0,.int .u32 0,.int .u32 0,.int .u8 0,.int .u8 0,.int .u8 0,.int .u8 0,.int .u8 0,.int .u8 0,.int .u8 0,.int .u8 0,.int .u8 0,.int .u8 0,.int .u8 0,.int .u8 0,.int .u8 0,.int .u8 0,.int .u8 0,.int .u8 0,.int .u8 0,.int .u8 0,.int .u8 0,.int .u8 0,.int .u8 0,.int .u8 0,.int .u8 0,.int .u8 0,.int .u8 0,.int .u8 0,.int .u8 0,.int .u8 0,.int .u8 0,.int .u8 0,.int .u8 0,.int .u8 0,.int .u8 0,.int .u8 0,.int .u8 0,.int .u8 0,.int .u8 0,.int .u8 0,.int .u8 0,.int .u8 0,.int .u8 0,.int .u8 0,.int .u8 0,.int .u8 0,.int .u8 0,.int .u8 0,.int .u8 0,.int .u8 0,.int .u8 0,.int .u8 0,.int .u8 0,.int .u8 0,.int .u8 0,.int .u8 0,.int .u8 0,.int .u8 0,.int .u8 0,.int .u8 0,.int .u8 0,.int .u8 0,.int .u8 0,.int .u8 0,.int .u8 0,.int .u8 0,.int .i64 0] 179))=.ok () w5):=Hd (by
      rw[hw4] at ST0 hw5
      rw[Ydl] at ST0 hw5
      rw[hw5];exact ST0)
     have RD5:Rd w5 (some ⟨g2,0,none⟩) (Xw4 n):=RD.out.onB B5
     have WR:=Hd (Xnm w5 wr.heap.size h (some ⟨g2,0,none⟩) c2 (Xw4 n) H5 HO.out RD5 (fun ad e _=>by cases e;show g2≠wr.heap.size;omega) (by rw[←HN.out];have:=PL.out;omega) (by rw[PLN.out];exact hgc2) hcm2 (HE.out.below ((BA.out.trans (bw.out.mono (by omega))).trans (B5.mono (by omega))) HE.out.size) (by omega))
     rw[PLN.out] at WR
     have FOK:Hid ((wrF h (Xw4 n)).Ok):=Hd (Yc3 HO.out (Xw3 n))
     have R5:Hid (IB w5 w.heap.size 60 (List.replicate 32 0)):=Hd ((B5.block w.heap.size (by omega)).trans ((bw.out.block w.heap.size (by have:=SA'.out;omega)).trans RA.out))
     have BW5:Hid (Below w.heap.size w w5):=Hd ((BA.out.trans (bw.out.mono (by omega))).trans (B5.mono (by omega)))
     have s5:w.heap.size<w5.heap.size:=by have:=B5.size;omega
     obtain⟨hv,hhv⟩:∃hv,hv=hC h:=⟨_,rfl⟩
     rw[←hhv] at LD ST
     clear hw4 hw5 H4 ST0 H5 B5 RD5 hhv ow bw OWN RD HKq
     go_wp2_with (first
      |((with_reducible refine Xac 179 rfl _ rfl ?_);refine⟨_,_,rfl,LD.out,?_⟩)
      |((with_reducible refine Xab 179 rfl _ _ rfl ?_);refine⟨_,_,_,rfl,rfl,ST.out,?_⟩))
     refine WR.out.mono ?_
     rintro e w6 ⟨⟨v6,rfl⟩,h6,f6⟩
     have L6:=Hd h6.st
     have DG:=Hd (Xu0 w6 FOK.out.st)
     have R6:IB w6 w.heap.size 60 (List.replicate 32 0):=(f6.other w.heap.size s5 (by omega)).trans R5.out
     have FIN:Hid (∀w7,Below w6.heap.size w6 w7→(storeVar 60 ⟨w.heap.size,0,none⟩ (.agg (idA (smF h)))).run Tryz.prog w7=.ok () (w7.setRow w.heap.size (idA (smF h)))∧IB (w7.setRow w.heap.size (idA (smF h))) w.heap.size 60 (smF h)∧Below w.heap.size w (w7.setRow w.heap.size (idA (smF h)))):=Hd (fun w7 hb7=>by
      have R7:=R6.below hb7
      have bw6:Below w.heap.size w w6:=BW5.out.trans (f6.below BW5.out.size (by omega))
      have sl:(smF h).length=32:=Xci _
      exact⟨run_storeVar_row w7 w.heap.size _ 60 _ _ R7 (by rw[Xag,sl];exact Xgo) (by rw[Xag,Xag,sl];simp) (Xdu _),setRow_heap w7 _ _ _ _ _ R7,below_setRow (bw6.trans (hb7.mono bw6.size)) (Nat.le_refl _) _⟩)
     have SM:Hid (idA (dgF (wrF h (Xw4 n)).st)=idA (smF h)):=Hd (by rw[HN.out];rfl)
     rw[SM.out] at DG
     obtain⟨v7,hv7⟩:∃v7,v7=wC (wrF h (Xw4 n)).st:=⟨_,rfl⟩
     rw[←hv7] at L6 DG
     have SZ:Hid ((Tryz.prog.info? 60).map (·.size)=some (idA (smF h)).size):=Hd (by rw[Xag,show(smF h).length=32 from Xci _];exact Xgo)
     obtain⟨rs,hrs⟩:∃rs,rs=idA (smF h):=⟨_,rfl⟩
     rw[←hrs] at DG FIN SZ
     have HRS:=Hd hrs
     clear hv7 hrs h6 f6 R6 WR ST LD SM
     go_wp2_with ((with_reducible refine Xac 176 rfl _ rfl ?_);refine⟨_,_,rfl,L6.out,?_⟩)
     refine DG.out.mono ?_
     rintro e w7 ⟨rfl,hb7⟩
     obtain⟨f0,f1,f2⟩:=FIN.out w7 hb7
     have F0:=Hd f0
     have F1:=Hd f1
     have F2:=Hd f2
     clear f0 f1 f2 hb7 FIN DG L6
     go_wp2_with ((with_reducible refine Xab 60 rfl _ _ rfl ?_);refine⟨_,_,_,rfl,rfl,F0.out,?_⟩)
     have f1:=F1.out
     unfold IB at f1
     rw[←HRS.out] at f1
     exact bodyPost_ret (results_cell_row Tryz.results74 _ _ w.heap.size _ _ _ _ rfl f1 Tryz.underlying60 rfl SZ.out) rfl ⟨by rw[HRS.out],F2.out⟩
theorem Yev (w:World):Calls Tryz.prog 72 #[] w fun e w'=>e=.returned (.pointer (some ⟨w.heap.size,0,none⟩))∧w'=w.alloc (.cells (hC hs0) 179):=by
 rw[Ydl]
 go_enter Tryz.func72,Tryz.ntmps72
 go_wp2_with fail
 go_ret
 exact⟨rfl,rfl⟩
set_option maxHeartbeats 4000000 in
theorem Yef (w:World) (a:Option Addr) (cap:Nat) (l:List Nat) (hr:Rd w a l) (hl:l.length≤10000000) (hcap:l.length≤cap) (hcm:cap≤maxLen) (hE:Env w):
    Calls Tryz.prog 27 #[.slice a l.length cap] w fun e w'=>e=.returned (.agg (idA (Xwb l)))∧Below w.heap.size w w':=by
 obtain⟨zs,hzs⟩:∃zs,zs=idA (List.replicate 32 0):=⟨_,rfl⟩
 have Z0:Hid (zs=#[.int .u8 0,.int .u8 0,.int .u8 0,.int .u8 0,.int .u8 0,.int .u8 0,.int .u8 0,.int .u8 0,.int .u8 0,.int .u8 0,.int .u8 0,.int .u8 0,.int .u8 0,.int .u8 0,.int .u8 0,.int .u8 0,.int .u8 0,.int .u8 0,.int .u8 0,.int .u8 0,.int .u8 0,.int .u8 0,.int .u8 0,.int .u8 0,.int .u8 0,.int .u8 0,.int .u8 0,.int .u8 0,.int .u8 0,.int .u8 0,.int .u8 0,.int .u8 0]):=Hd (by rw[hzs];rfl)
 obtain⟨wA,hwA⟩:∃wA,wA=w.alloc (.cells zs 60):=⟨_,rfl⟩
 have BA:Below w.heap.size w wA:=by rw[hwA];exact(Below.refl _ _).alloc (Nat.le_refl _) _
 have RA:IB wA w.heap.size 60 (List.replicate 32 0):=by unfold IB;rw[hwA,←hzs];exact heap_alloc_last w _
 have SA:wA.heap.size=w.heap.size+1:=by rw[hwA];simp
 have h9:=hE.size
 have NW:=Hd (Yev wA)
 obtain⟨w1,hw1⟩:∃w1,w1=wA.alloc (.cells (hC hs0) 179):=⟨_,rfl⟩
 rw[←hw1] at NW
 have B1:Below wA.heap.size wA w1:=by rw[hw1];exact(Below.refl _ _).alloc (Nat.le_refl _) _
 have H1:HK w1 wA.heap.size hs0:=by unfold HK;rw[hw1];exact heap_alloc_last wA _
 have R1:=RA.below B1
 have BW1:Below w.heap.size w w1:=BA.trans (B1.mono BA.size)
 have RD1:Rd w1 a l:=hr.onB BW1
 have WR:=Hd (Xnm w1 wA.heap.size hs0 a cap l H1 Ydk RD1 (fun ad e h0=>by
  obtain⟨b,off,e2,hb,_⟩:=hr.at_ h0
  rw[e2] at e;cases e
  show b≠_
  omega) (by show 0+_≤_;omega) hcap hcm (hE.on BW1) (by omega))
 have OK:Hid ((wrF hs0 l).Ok):=Hd (Yc3 Ydk hr.lt)
 have LN:Hid ((wrF hs0 l).len≤100000000):=Hd (by
  show(wrN l.length _ l).len≤_
  rw[Xvl _ _ _ (Nat.le_refl _)];show 0+_≤_;omega)
 have s1:w.heap.size<w1.heap.size:=by have:=B1.size;omega
 have HR1:=Hd R1;have HB1:=Hd BW1;have HE:=Hd hE;have HWA:=Hd hwA
 have SA':=Hd SA
 obtain⟨L,hL⟩:∃L,L=l.length:=⟨_,rfl⟩
 rw[←hL] at WR⊢
 clear hwA hw1 hzs BA RA B1 H1 R1 BW1 RD1 hr hl hcap hcm hE hL
 go_enter Tryz.func27,Tryz.ntmps27
 go_upto_region 1 with fail
 have WA':=HWA.out
 rw[Z0.out] at WA'
 rw[←WA']
 clear WA' HWA
 go_wp2_with fail
 refine NW.out.mono ?_
 rintro e wx ⟨rfl,rfl⟩
 clear NW
 rw[SA'.out] at WR⊢
 clear SA
 go_wp2_with fail
 refine WR.out.mono ?_
 rintro e w2 ⟨⟨v2,rfl⟩,h2,f2⟩
 have bw2:Below w.heap.size w w2:=HB1.out.trans (f2.below HB1.out.size (Nat.le_succ _))
 have SM:=Hd (Ybu w2 (w.heap.size+1) _ h2 OK.out LN.out (HE.out.on bw2))
 have R2:IB w2 w.heap.size 60 (List.replicate 32 0):=(f2.other w.heap.size s1 (by omega)).trans HR1.out
 have FIN:Hid (∀w7,Below w2.heap.size w2 w7→(storeVar 60 ⟨w.heap.size,0,none⟩ (.agg (idA (smF (wrF hs0 l))))).run Tryz.prog w7=.ok () (w7.setRow w.heap.size (idA (smF (wrF hs0 l))))∧IB (w7.setRow w.heap.size (idA (smF (wrF hs0 l)))) w.heap.size 60 (smF (wrF hs0 l))∧Below w.heap.size w (w7.setRow w.heap.size (idA (smF (wrF hs0 l))))):=Hd (fun w7 hb7=>by
  have R7:=R2.below hb7
  have sl:(smF (wrF hs0 l)).length=32:=Xci _
  exact⟨run_storeVar_row w7 w.heap.size _ 60 _ _ R7 (by rw[Xag,sl];exact Xgo) (by rw[Xag,Xag,sl];simp) (Xdu _),setRow_heap w7 _ _ _ _ _ R7,below_setRow (bw2.trans (hb7.mono bw2.size)) (Nat.le_refl _) _⟩)
 have SZ:Hid ((Tryz.prog.info? 60).map (·.size)=some (idA (smF (wrF hs0 l))).size):=Hd (by rw[Xag,show(smF (wrF hs0 l)).length=32 from Xci _];exact Xgo)
 obtain⟨rs,hrs⟩:∃rs,rs=idA (smF (wrF hs0 l)):=⟨_,rfl⟩
 have HRS:Hid (idA (Xwb l)=rs):=Hd (by rw[hrs];rfl)
 have HRS2:=Hd hrs
 rw[←hrs] at SM FIN SZ
 clear hrs h2 f2 R2 WR bw2
 go_wp2_with fail
 refine SM.out.mono ?_
 rintro e w7 ⟨rfl,hb7⟩
 obtain⟨f0,f1,f2⟩:=FIN.out w7 hb7
 have F0:=Hd f0;have F1:=Hd f1;have F2:=Hd f2
 clear f0 f1 f2 hb7 FIN SM
 go_wp2_with ((with_reducible refine Xab 60 rfl _ _ rfl ?_);refine⟨_,_,_,rfl,rfl,F0.out,?_⟩)
 have f1:=F1.out
 unfold IB at f1
 rw[←HRS2.out] at f1
 exact bodyPost_ret (results_cell_row Tryz.results27 _ _ w.heap.size _ _ _ _ rfl f1 Tryz.underlying60 rfl SZ.out) rfl ⟨by rw[HRS.out],F2.out⟩
end Go.Proofs.YtohmdledkhgdaaaGreatDoor
