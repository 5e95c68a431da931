/- bulletinref03.First, All. -/
import Derived.Test.YtjolcnopipbkhaaGreatDoorFo13
namespace Go.Proofs.YtjolcnopipbkhaaGreatDoor
open Go.Proofs.Tryz
open Go.RowKit Go.Maps
set_option linter.unusedVariables false
set_option maxHeartbeats 100000000
set_option maxRecDepth 100000
def Yjh (l:List Nat)(w:World)(e:Ending)(w':World):Prop:=
 ∃r n er:Nat,e=.returned (.tuple #[.int .i64 (r:Int),.int .i64 (n:Int),.int .i64 (er:Int)])∧(rn l≠0→r=cpt l∧n=rn l∧er=0)∧(rn l=0→er≠0)∧Bw w w'
theorem Yaj (s:ByteArray)(w:World)(h0:0<s.size)(hs:s.size≤maxLen):
    Calls prog 117 #[.string s] w (Yjh (bs s) w):=by
 unfold maxLen at hs
 obtain⟨c,hc⟩:=xq ((bs s).getD 0 0)
 have hc2:c<256:=by rw[hc];exact Xba s 0
 have b1:bs (s.extract 0 1)=[c]:=by
  rw[Yiu,hc]
  have:0<(bs s).length:=by rw[Xaa];exact h0
  cases h:bs s with
  |nil=>rw[h] at this;cases this
  |cons x l=>simp
 have z1:(s.extract 0 1).size=1:=by rw[ByteArray.size_extract];omega
 have C1:=Hd (Xix (s.extract 0 1) w (by omega) (by omega))
 rw[b1] at C1
 obtain⟨n,hn⟩:=xq (Xgi c)
 have hn4:n≤4:=by rw[hn];exact Xj9 c
 obtain⟨o1,o2⟩:=Ylq c hc2
 have HN:n=Xgi ((bs s).getD 0 0):=by rw[hn,hc]
 by_cases n0:n=0
 ·have R0:Hid (rn (bs s)=0):=Hd (Yc7 _ (by rw[←HN];exact n0))
  have B1:bgB [c]=false:=by rw[o1,←hn,n0];rfl
  clear hn HN o1 o2 hc b1 z1
  go_enter func117,ntmps117
  go_wp2_with fail
  refine C1.o.mono ?_
  rintro e w1 ⟨a,b,rfl,hx,hb⟩
  rw[B1]
  have D1:=Hd hb
  clear hb hx C1 B1
  go_wp2_with fail
  go_ret3
  exact⟨0,0,6,rfl,(fun h=>absurd R0.o h),(fun _=>by decide),D1.o⟩
 have B1:bgB [c]=true:=by rw[o1,←hn];exact zT n0
 have L1:ldN c=n:=by rw[o2 (by rw[←hn];exact n0),hn]
 by_cases hl:n≤s.size
 ·have z2:(s.extract 0 n).size=n:=by rw[ByteArray.size_extract];omega
  have C2:Hid (∀w,Calls prog 165 #[.string (s.extract 0 n)] w (Xvb ((bs s).take n) w)):=Hd (fun w=>by
   have:=Xix (s.extract 0 n) w (by omega) (by omega)
   rw[Yiu] at this
   exact this)
  obtain⟨f1,f2⟩:=Yeq (bs s) (fun x hx=>Xgq s x hx) n HN n0 (by rw[Xaa];exact hl)
  have tl:((bs s).take n).length=n:=by rw[List.length_take,Xaa];omega
  have FO:=Hd (And.intro f1 f2)
  have TL:=Hd tl
  have hnI:(n:Int)≤(s.size:Int):=by omega
  obtain⟨l2,hl2⟩:=xq ((bs s).take n)
  rw[←hl2] at C2 FO TL
  obtain⟨r,hr⟩:=xq (decide (rn (bs s)≠0))
  have HR:=Hd hr
  have HL1:=Hd L1
  have HB1:=Hd B1
  clear hn HN o1 o2 hc b1 z1 f1 f2 tl hl2 hr L1 B1
  go_enter func117,ntmps117
  go_wp2_with fail
  refine C1.o.mono ?_
  rintro e w1 ⟨a,b,rfl,hx,hb⟩
  obtain⟨ha,_⟩:=hx HB1.o
  rw[HB1.o]
  rw[show([c]:List Nat).getD 0 0=c from rfl,HL1.o] at ha
  subst ha
  have D1:=Hd hb
  clear hb hx C1
  go_wp2_with fail
  refine(C2.o _).mono ?_
  rintro e w2 ⟨a2,b2,rfl,hx,hb⟩
  have D2:=bh D1 hb
  have HX:=Hd hx
  clear hb hx C2 D1
  rw[FO.o.1,←HR.o]
  cases r
  ·go_wp2_with fail
   go_ret3
   exact⟨0,0,3,rfl,(fun h=>absurd (of_decide_eq_false HR.o.symm) (fun h'=>h' h)),(fun _=>by decide),D2.o⟩
  ·go_wp2_with fail
   go_ret3
   have hr:=of_decide_eq_true HR.o.symm
   have h1:=FO.o.2 hr
   have h2:=HX.o (by rw[FO.o.1];exact zT hr)
   exact⟨b2,a,0,rfl,(fun _=>⟨by rw[h2.2,TL.o];exact h1.1,h1.2.symm,rfl⟩),(fun h=>absurd h hr),D2.o⟩
 ·have C2:Hid (∀w,Calls prog 165 #[.string s] w (Xvb (bs s) w)):=Hd (fun w=>Xix s w h0 (by omega))
  have R0:Hid (rn (bs s)=0):=Hd (Yc6 _ (by rw[Xaa,←HN];omega))
  have HL1:=Hd L1
  have HB1:=Hd B1
  clear hn HN o1 o2 hc b1 z1 L1 B1
  go_enter func117,ntmps117
  go_wp2_with fail
  refine C1.o.mono ?_
  rintro e w1 ⟨a,b,rfl,hx,hb⟩
  obtain⟨ha,_⟩:=hx HB1.o
  rw[HB1.o]
  rw[show([c]:List Nat).getD 0 0=c from rfl,HL1.o] at ha
  subst ha
  have D1:=Hd hb
  clear hb hx C1
  go_wp2_with fail
  refine(C2.o _).mono ?_
  rintro e w2 ⟨a2,b2,rfl,hx,hb⟩
  have D2:=bh D1 hb
  clear hb hx C2 D1
  obtain⟨r,hr⟩:=xq (bgB (bs s))
  rw[←hr]
  clear hr
  cases r
  ·go_wp2_with fail
   go_ret3
   exact⟨0,0,3,rfl,(fun h=>absurd R0.o h),(fun _=>by decide),D2.o⟩
  ·go_wp2_with fail
   go_ret3
   exact⟨0,0,23,rfl,(fun h=>absurd R0.o h),(fun _=>by decide),D2.o⟩
theorem Yms:(prog.info? 3).map (fun i=>(i.zero,i.size,i.bytes))=some (some (.int .i64 0),1,8):=by kernel_rfl
def NRow (w:World)(v:Value)(ns:List Nat):Prop:=
 ∃a cap,v=.slice a ns.length cap∧ns.length≤cap∧(ns≠[]→∃b off,a=some ⟨b,off,none⟩∧b<w.heap.size∧∀j (h:j<ns.length),w.cell? ⟨b,off+j,none⟩=some (.int .i64 (ns[j]:Int)))
def nV (n:Nat):Value:=.int .i64 (n:Int)
theorem Xt6 {w:World}{base:Nat}{v:Value}{ns:List Nat}(h:w.ownsRow base 3 1 v ns.length (ns.map nV)):NRow w v ns:=by
 rcases h.2 with⟨rfl,h0⟩|⟨g,cap,cur,rfl,hb,hg,hc,_,hs,ht⟩
 ·exact⟨none,0,by rw[h0],by rw[h0];exact zL _,fun hne=>absurd (List.length_eq_zero_iff.1 h0) hne⟩
 ·refine⟨some ⟨g,0,none⟩,cap,rfl,hc,fun _=>⟨g,0,rfl,zY hg,fun j hj=>?_⟩⟩
  rw[Nat.zero_add,cell_of_row w g j _ _ _ hg]
  have e1:(cur.toList.take (ns.length*1))[j]?=some (.int .i64 (ns[j]:Int)):=by rw[ht];simp[hj,nV]
  rw[List.getElem?_take,qP (by omega)] at e1
  simpa using e1
theorem NRow.below {w w':World}{v:Value}{ns:List Nat}(h:NRow w v ns)(hb:Bw w w'):NRow w' v ns:=by
 obtain⟨a,cap,h1,h2,h3⟩:=h
 refine⟨a,cap,h1,h2,fun hne=>?_⟩
 obtain⟨b,off,h4,h5,h6⟩:=h3 hne
 exact⟨b,off,h4,Nat.lt_of_lt_of_le h5 hb.size,fun j hj=>(hb.cell (p:=⟨b,off+j,none⟩) h5).trans (h6 j hj)⟩
theorem Xqw {P:Program}(w:World)(base:Nat)(t ty e:TypeId)(i:TypeInfo)(z:Value)(size bytes:Nat)(ht:P.underlying t=some (.slice e))(hi:P.info? e=some i)(hz:i.zero=some z)
    (hsize:i.size=size) (hby:i.bytes=bytes) (v:Value) (n:Nat) (xs:List Value) (hown:w.ownsRow base e size v n xs)
    (a:Addr) (m c:Nat) (news:List Value) (hl:news.length=m*size) (hnews:∀j u,news[j]?=some u→w.cell? (a.add j)=some u) (h1:∀u∈news,u.oneCell'=true)
    (h63:n+m≤maxLen) (hbytes:(n+m)*bytes≤140737488355328) (hm:0<m) (v':Value) (w':World)
    (hr:(Builtin.append_ #[t,t] ty #[v,.slice (some a) m c]).run P w=.ok v' w'):∀k,v'.ownBlock=some k→v.ownBlock=some k∨w.heap.size≤k:=by
 subst hsize
 subst hby
 have hsmall:n+m≤9223372036854775807:=by simp only[maxLen] at h63;omega
 rcases hown.2 with⟨rfl,rfl⟩|⟨g,cap,cur,rfl,hbg,hg,hnc,hcm,hcs,htake⟩
 ·have h:=run_append_nil (P:=P) w t ty e i z ht hi hz a m c news hl hnews hm (by omega) (by have hb:=hbytes;simp only[Nat.zero_add] at hb;omega)
  rw[h] at hr
  cases hr
  intro k hk
  simp[Value.ownBlock] at hk
  exact .inr (by omega)
 ·by_cases hroom:n+m≤cap
  ·have hfit:n*i.size+news.length≤cur.size:=by rw[hl,hcs,←Nat.add_mul];exact Nat.mul_le_mul_right _ hroom
   have h:=run_append_room (P:=P) w t ty e i ht hi g n cap cur hg a m c news hl hnews h1 hroom hfit
   rw[h] at hr
   cases hr
   exact fun k hk=>.inl hk
  ·have h:=run_append_grow (P:=P) w t ty e i z ht hi hz ⟨g,0,none⟩ n cap xs hown.1 (hown.cells (g:=g) rfl) a m c news hl hnews (by omega) (by omega) (growslice_fits (by omega) hbytes)
   rw[h] at hr
   cases hr
   intro k hk
   simp[Value.ownBlock] at hk
   exact .inr (by omega)
structure TA (w:World) (u1 u2:Value) (n1 n2:Nat) (xs1 xs2:List Value) (W:World):Prop where
 r1:W.ownsRow w.heap.size 3 1 u1 n1 xs1
 r2:W.ownsRow w.heap.size 3 1 u2 n2 xs2
 sep:∀k,u1.ownBlock=some k→u2.ownBlock≠some k
 bel:Bw w W
theorem TA.alloc {w:World}{u1 u2:Value}{n1 n2:Nat}{xs1 xs2:List Value}{W:World}(h:TA w u1 u2 n1 n2 xs1 xs2 W)(o:Obj):TA w u1 u2 n1 n2 xs1 xs2 (W.alloc o):=⟨h.r1.alloc o,h.r2.alloc o,h.sep,h.bel.alloc h.bel.size o⟩
theorem TA.symm {w:World}{u1 u2:Value}{n1 n2:Nat}{xs1 xs2:List Value}{W:World}(h:TA w u1 u2 n1 n2 xs1 xs2 W):TA w u2 u1 n2 n1 xs2 xs1 W:=⟨h.r2,h.r1,fun k h1 h2=>h.sep k h2 h1,h.bel⟩
theorem TA.app {w:World}{u1 u2:Value}{n1 n2:Nat}{xs1 xs2:List Value}{W:World}(h:TA w u1 u2 n1 n2 xs1 xs2 W)(hn:n1≤100000000)(q:Nat)(x:Value)(hx:x.oneCell'=true)(hq:W.heap[q]?=some (.cells #[x] 3 (0,0))):
    ∃v' W',(Builtin.append_ #[114,114] 114 #[u1,.slice (some ⟨q,0,none⟩) 1 1]).run prog W=.ok v' W'∧TA w v' u2 (n1+1) n2 (xs1++[x]) xs2 W'∧(∀k,k<W.heap.size→u1.ownBlock≠some k→W'.heap[k]?=W.heap[k]?):=by
 obtain⟨i0,hi0,hz0,hz1,hz2⟩:=info_parts Yms
 have hnews:∀(j:Nat) u,[x][j]?=some u→W.cell? ((⟨q,0,none⟩:Addr).add j)=some u:=World.news_of_block (cs:=#[x]) (t:=3) (fr:=(0,0)) hq
 have h63:n1+1≤maxLen:=by unfold maxLen;omega
 obtain⟨v',w',hr,h2,h3,h4⟩:=run_append_own (P:=prog) W w.heap.size 114 114 3 i0 (.int .i64 0) 1 8 underlying114 hi0 hz0 hz1 hz2 rfl (by decide) u1 n1 xs1 h.r1 ⟨q,0,none⟩ 1 1 [x] rfl hnews (by simpa using hx) h63 (by omega) h.bel.size
 have h5:=Xqw (P:=prog) W w.heap.size 114 114 3 i0 (.int .i64 0) 1 8 underlying114 hi0 hz0 hz1 hz2 u1 n1 xs1 h.r1 ⟨q,0,none⟩ 1 1 [x] rfl hnews (by simpa using hx) h63 (by omega) (by omega) v' w' hr
 have e2:u2.ownBlock=none∨u2.ownBlock≠u1.ownBlock:=by
  cases e:u2.ownBlock with
  |none=>exact .inl rfl
  |some k=>exact .inr (fun e'=>h.sep k e'.symm e)
 refine⟨v',w',hr,⟨h2,h.r2.kept h3 e2,fun k hk hk2=>?_,Below.grown h.bel h3 h.bel.size (fun k hk=>(h.r1.lt k hk).1)⟩,fun k hk hne=>h3.block k hk (fun e=>hne e.symm)⟩
 rcases h5 k hk with h6|h6
 ·exact h.sep k h6 hk2
 ·have:=(h.r2.lt k hk2).2;omega
theorem Ylm (w:World)(x:Int):(Instr.buildSlice 114 1 #[(0,.int .i64 x)]).run prog w=.ok (.slice (some ⟨w.heap.size,0,none⟩) 1 1) (w.alloc (.cells #[.int .i64 x] 3)):=by kernel_rfl
theorem Xuq {P:Program}{o:Oper}{a:Act}(w:World){t e:TypeId}{x:Operand}{v:Value}(ho:o.op=.buildSlice t 1 #[(0,x)])(hx:a.eval x=v)(h:(Instr.buildSlice t 1 #[(0,v)]).run P w=.ok (.slice (some ⟨w.heap.size,0,none⟩) 1 1) (w.alloc (.cells #[v] e))):(execOp a.eval o).run P w=.ok (.value (.slice (some ⟨w.heap.size,0,none⟩) 1 1)) (w.alloc (.cells #[v] e)):=by
 unfold execOp
 rw[ho]
 simp only[List.map_toArray,List.map_cons,List.map_nil,hx]
 rw[Sem.run_bind,h]
 rfl
def Yjk (l:List Nat)(w:World)(e:Ending)(w':World):Prop:=
 ∃(v1 v2:Value) (a er:Nat),e=.returned (.tuple #[v1,v2,.int .i64 (a:Int),.int .i64 (er:Int)])∧NRow w' v1 ((rns l).map Prod.snd)∧NRow w' v2 ((rns l).map Prod.fst)∧(vld l=true→er=0)∧(vld l=false→er≠0)∧a≤l.length∧Bw w w'
theorem Yj1 (l:List Nat):rns l=rsN l.length 0 l:=rfl
theorem Xyj (l:List Nat):(rns l).length≤l.length:=Xye _ _ _
theorem Xi5 {fn:Func}{t u v x:Tmp}(h:fn.results=#[.tmp t,.tmp u,.tmp v,.tmp x])(tmps:Array Value)(P:Program)(w:World):
    (results fn tmps).run P w=.ok (.tuple #[tmps.getD t undef,tmps.getD u undef,tmps.getD v undef,tmps.getD x undef]) w:=by
 simp[results,h]
structure AlI (s:ByteArray) (w:World) (n:Nat) (u1 u2:Value) (pre:List (Nat×Nat)) (wr:World):Prop where
 rn1:rns (bs s)=pre++rsN (s.size-n) n ((bs s).drop n)
 vd1:vld (bs s)=vld ((bs s).drop n)
 len:pre.length≤n
 ta:TA w u1 u2 pre.length pre.length ((pre.map Prod.snd).map nV) ((pre.map Prod.fst).map nV) wr
theorem AlI.post1 {s:ByteArray}{w wr:World}{n:Nat}{u1 u2:Value}{pre:List (Nat×Nat)}(h:AlI s w n u1 u2 pre wr)(he:rns (bs s)=pre):NRow wr u1 ((rns (bs s)).map Prod.snd):=by
 rw[he]
 exact Xt6 (base:=w.heap.size) (by rw[List.length_map];exact h.ta.r1)
theorem AlI.post2 {s:ByteArray}{w wr:World}{n:Nat}{u1 u2:Value}{pre:List (Nat×Nat)}(h:AlI s w n u1 u2 pre wr)(he:rns (bs s)=pre):NRow wr u2 ((rns (bs s)).map Prod.fst):=by
 rw[he]
 exact Xt6 (base:=w.heap.size) (by rw[List.length_map];exact h.ta.r2)
theorem Ybw (s:ByteArray)(w:World)(hs:s.size≤10000000):
    Calls prog 67 #[.string s] w (Yjk (bs s) w):=by
 go_enter func67,ntmps67
 go_wp2_with fail
 go_loopg [6,7,8] s.size (fun k a b i wr=>∃(n:Nat) (pre:List (Nat×Nat)),n≤s.size∧k=s.size-n∧i=.int .i64 (n:Int)∧Hid (AlI s w n a b pre wr))
 case atStart=>exact⟨0,[],by omega,rfl,rfl,Hd ⟨by rw[Nat.sub_zero,Yj1,Xaa];rfl,rfl,zL _,⟨World.ownsRow_nil _ _ _ _,World.ownsRow_nil _ _ _ _,(fun k h=>by simp[Value.ownBlock] at h),zR _ _⟩⟩⟩
 case round=>
  obtain⟨n,pre,hn,rfl,rfl,J⟩:=hrel
  by_cases b:n<s.size
  ·have hsz:(s.extract n s.size).size=s.size-n:=by rw[ByteArray.size_extract];omega
   have D:=Hd (Yaj (s.extract n s.size) wr (by omega) (by rw[hsz];unfold maxLen;omega))
   rw[Xom] at D
   have hl:=(Xrf ((bs s).drop n)).1
   rw[List.length_drop,Xaa] at hl
   have hne:(bs s).drop n≠[]:=by intro e;have:=congrArg List.length e;rw[List.length_drop,Xaa] at this;simp at this;omega
   have hst:=Xnd hne
   have hlt:((bs s).drop n).length=s.size-n:=by rw[List.length_drop,Xaa]
   by_cases z:rn ((bs s).drop n)=0
   ·have E1:Hid (rns (bs s)=pre):=Hd (by rw[J.o.rn1,Xns _ _ _ z,List.append_nil])
    have E2:Hid (vld (bs s)=false):=Hd (by rw[J.o.vd1,hst,z];rfl)
    have Z:=Hd z
    clear hst hne hsz hlt z
    go_wp2_with fail
    refine D.o.mono ?_
    rintro e w1 ⟨r,m,er,rfl,h1,h2,hb⟩
    have q1:((er:Int) !=0)=true:=Xam (by have:=h2 Z.o;omega)
    have H2:=Hd (h2 Z.o)
    have HB:=Hd hb
    clear D h1 h2 hb
    go_wp2_with fail
    (try simp only[Exit.inBlock,Exit.then])
    refine zP (Xi5 rfl _ _ _) rfl ?_
    exact⟨_,_,n,er,rfl,(J.o.post1 E1.o).below HB.o,(J.o.post2 E1.o).below HB.o,(fun h=>by rw[E2.o] at h;cases h),(fun _=>H2.o),by rw[Xaa];exact hn,J.o.ta.bel.trans (HB.o.mono J.o.ta.bel.size)⟩
   ·obtain⟨p,hp⟩:=xq ((n,cpt ((bs s).drop n)))
    have E1:Hid (∀m,m=rn ((bs s).drop n)→rns (bs s)=(pre++[p])++rsN (s.size-(n+m)) (n+m) ((bs s).drop (n+m))):=Hd (by
     rintro m rfl
     rw[J.o.rn1,Xnt _ _ _ z (by rw[hlt];exact zL _),←hp,List.drop_drop,List.length_drop,Xaa,List.append_assoc]
     rfl)
    have E2:Hid (∀m,m=rn ((bs s).drop n)→vld (bs s)=vld ((bs s).drop (n+m))):=Hd (by
     rintro m rfl
     rw[J.o.vd1,hst,List.drop_drop]
     simp[z])
    have Z:=Hd z
    have HP:=Hd hp
    have LEN:=Hd J.o.len
    have SZ:=Hd hs
    have HN:=Hd hn
    clear hst hne hsz hlt z hp
    go_wp2_with fail
    refine D.o.mono ?_
    rintro e w1 ⟨r,m,er,rfl,h1,h2,hb⟩
    obtain⟨hr,hm,rfl⟩:=h1 Z.o
    have HM:=Hd hm
    have HR:=Hd hr
    have T1:TA w u6 u7 pre.length pre.length ((pre.map Prod.snd).map nV) ((pre.map Prod.fst).map nV) w1:=⟨Xd1 J.o.ta.r1 hb,Xd1 J.o.ta.r2 hb,J.o.ta.sep,J.o.ta.bel.trans (hb.mono J.o.ta.bel.size)⟩
    have T2:=Hd T1
    have hml:m≤s.size-n:=by rw[hm];exact hl
    have hm0:m≠0:=by rw[hm];exact Z.o
    have EXT:Hid (∀v8 v9 W,TA w v8 v9 (pre.length+1) (pre.length+1) ((pre.map Prod.snd).map nV++[.int .i64 (r:Int)]) ((pre.map Prod.fst).map nV++[.int .i64 (n:Int)]) W→AlI s w (n+m) v8 v9 (pre++[p]) W):=Hd (fun v8 v9 W h=>⟨E1.o m HM.o,E2.o m HM.o,by rw[List.length_append];have:=LEN.o;simp;omega,by
     rw[List.length_append,List.map_append,List.map_append,List.map_append,List.map_append,HP.o,←HR.o]
     exact h⟩)
    have PL:Hid (pre.length≤100000000):=Hd (by have:=LEN.o;have:=SZ.o;have:=HN.o;omega)
    have OR:Hid (nV r=.int .i64 (r:Int)):=Hd rfl
    clear D h1 h2 hb hm hr hl J T1 E1 E2 Z HP LEN HM HR
    obtain⟨ol,hol⟩:=xq pre.length
    rw[←hol] at T2 EXT PL
    obtain⟨xs1,hx1⟩:=xq ((pre.map Prod.snd).map nV)
    obtain⟨xs2,hx2⟩:=xq ((pre.map Prod.fst).map nV)
    rw[←hx1,←hx2] at T2 EXT
    clear hol hx1 hx2
    go_upto_region 7 with fail
    refine wp_region_list ?_
    simp only[]
    have A1:=T2.o.alloc (.cells #[.int .i64 (r:Int)] 3)
    obtain⟨v8,W2,hr,A2,_⟩:=A1.app PL.o w1.heap.size (.int .i64 (r:Int)) rfl (zN w1 _)
    have A3:=A2.alloc (.cells #[.int .i64 (n:Int)] 3)
    obtain⟨v9,W4,hr2,A4,_⟩:=A3.symm.app PL.o W2.heap.size (.int .i64 (n:Int)) rfl (zN W2 _)
    have FJ:=Hd (EXT.o _ _ _ A4.symm)
    clear T2 A1 A2 A3 A4 EXT
    refine Xas (v:=u6) (w':=w1) rfl (by go_simp) ?_
    refine Xas (v:=.int .i64 (r:Int)) (w':=w1) rfl (by go_simp) ?_
    refine Xas rfl (Xuq w1 (x:=.tmp 31) (v:=.int .i64 (r:Int)) rfl (by kernel_rfl) (Ylm _ _)) ?_
    refine Xas rfl (Xcg (s:=.tmp 30) (x:=.tmp 32) (v:=u6) (u:=.slice (some ⟨w1.heap.size,0,none⟩) 1 1) rfl (by kernel_rfl) (by kernel_rfl) hr) ?_
    refine Xas (v:=u7) (w':=W2) rfl (by go_simp) ?_
    refine Xas (v:=.int .i64 (n:Int)) (w':=W2) rfl (by go_simp) ?_
    refine Xas rfl (Xuq W2 (x:=.tmp 35) (v:=.int .i64 (n:Int)) rfl (by kernel_rfl) (Ylm _ _)) ?_
    refine Xas rfl (Xcg (s:=.tmp 34) (x:=.tmp 36) (v:=u7) (u:=.slice (some ⟨W2.heap.size,0,none⟩) 1 1) rfl (by kernel_rfl) (by kernel_rfl) hr2) ?_
    clear hr hr2
    go_wp2_with fail
    go_roundg (s.size-(n+m))
    case measure=>omega
    case rel=>exact⟨n+m,pre++[p],by omega,rfl,by go_num,FJ⟩
  ·have E1:Hid (rns (bs s)=pre):=Hd (by rw[J.o.rn1,List.drop_of_length_le (by rw[Xaa];omega),Xns _ _ _ Yf1,List.append_nil])
   have E2:Hid (vld (bs s)=true):=Hd (by rw[J.o.vd1,List.drop_of_length_le (by rw[Xaa];omega)];rfl)
   go_wp2_with fail
   (try simp only[Exit.inBlock,Exit.then])
   refine zP (Xi5 rfl _ _ _) rfl ?_
   exact⟨_,_,0,0,rfl,J.o.post1 E1.o,J.o.post2 E1.o,(fun _=>rfl),(fun h=>by rw[E2.o] at h;cases h),Nat.zero_le _,J.o.ta.bel⟩
theorem Ya1:∀l:List Nat,dbl l=true↔∃i,i+1<l.length∧l.getD i 0=32∧l.getD (i+1) 0=32
 |[]=>by simp[dbl]
 |[a]=>by simp[dbl]
 |a::b::t=>by
  have ih:=Ya1 (b::t)
  simp only[dbl,Bool.or_eq_true,Bool.and_eq_true,decide_eq_true_eq]
  rw[ih]
  constructor
  ·rintro(⟨rfl,rfl⟩|⟨i,h1,h2,h3⟩)
   ·exact⟨0,by simp,rfl,rfl⟩
   ·exact⟨i+1,by simp at h1⊢;omega,h2,h3⟩
  ·rintro⟨i,h1,h2,h3⟩
   cases i with
   |zero=>exact .inl ⟨h2,h3⟩
   |succ i=>exact .inr ⟨i,by simp at h1⊢;omega,h2,h3⟩
def spB (l:List Nat)(i:Nat):Prop:=l.getD i 0=32∧(i=0∨i=l.length-1∨l.getD (i+1) 0=32)
theorem Xx2 (l:List Nat):sqz l=true↔∀i,i<l.length→¬spB l i:=by
 unfold sqz
 simp only[Bool.and_eq_true,Bool.not_eq_true',decide_eq_false_iff_not]
 have hd:=Ya1 l
 constructor
 ·rintro⟨⟨h1,h2⟩,h3⟩ i hi ⟨h4,h5⟩
  rcases h5 with rfl|rfl|h5
  ·apply h1
   cases l with
   |nil=>simp at hi
   |cons a t=>simpa using h4
  ·apply h2
   rw[List.getLast?_eq_getElem?]
   simp[List.getD,hi] at h4⊢
   exact h4
  ·by_cases hi1:i+1<l.length
   ·rw[hd.2 ⟨i,hi1,h4,h5⟩] at h3;cases h3
   ·simp[List.getD,hi1] at h5
 ·intro h
  refine⟨⟨fun h1=>?_,fun h1=>?_⟩,?_⟩
  ·cases l with
   |nil=>cases h1
   |cons a t=>exact h 0 (by simp) ⟨by simpa using h1,.inl rfl⟩
  ·by_cases hz:l=[]
   ·subst hz;cases h1
   ·have:0<l.length:=List.length_pos_iff.2 hz
    rw[List.getLast?_eq_getElem?] at h1
    exact h (l.length-1) (by omega) ⟨by simp[List.getD,h1],.inr (.inl rfl)⟩
  ·cases hb:dbl l with
   |false=>rfl
   |true=>
    obtain⟨i,h1,h2,h3⟩:=hd.1 hb
    exact absurd ⟨h2,.inr (.inr h3)⟩ (h i (by omega))
theorem Yjy {l:List Nat}{i:Nat}(hi:i<l.length)(h:spB l i):sqz l=false:=by
 cases hs:sqz l with
 |false=>rfl
 |true=>exact absurd h ((Xx2 l).1 hs i hi)
theorem Xty (s:ByteArray)(w:World)(hs:s.size≤maxLen):
    Rz 69 #[.string s] w (.bool (sqz (bs s))):=by
 unfold maxLen at hs
 go_enter func69,ntmps69
 go_wp2_with fail
 go_loopg [3] s.size (fun k i wr=>∃n:Nat,n≤s.size∧k=s.size-n∧i=.int .i64 (n:Int)∧Hid (∀i,i<n→¬spB (bs s) i)∧Hid (Dr w wr))
 case atStart=>exact⟨0,by omega,rfl,rfl,Hd (fun i h=>by omega),Hd (Dr.refl _)⟩
 case round=>
  obtain⟨n,hn,rfl,rfl,hv,hd⟩:=hrel
  by_cases b:n<s.size
  ·obtain⟨x,hx⟩:=xq ((bs s).getD n 0)
   have hx2:x<256:=by rw[hx];exact Xba s n
   have y1:=fun w=>Xhc s w n n rfl b x hx
   have NXT:Hid (¬spB (bs s) n→∀i,i<n+1→¬spB (bs s) i):=Hd (fun h i hi=>by
    rcases Nat.lt_succ_iff_lt_or_eq.1 hi with h'|rfl
    ·exact hv.o i h'
    ·exact h)
   have NO:Hid (spB (bs s) n→sqz (bs s)=false):=Hd (Yjy (by rw[Xaa];exact b))
   have HX:=Hd hx
   clear hx hv
   by_cases e32:x=32
   ·have q1:((x:Int)==32)=true:=Xa4 (by omega)
    by_cases n0:n=0
    ·have q2:((n:Int)==0)=true:=Xa4 (by omega)
     have F:=Hd (NO.o ⟨by rw[←HX.o];exact e32,.inl n0⟩)
     clear NXT NO e32 n0
     go_wp2_with fail
     go_ret
     exact⟨by rw[F.o];rfl,by(first|exact hd.o|exact hd.o.drewN _)⟩
    by_cases nl:n=s.size-1
    ·have q2:((n:Int)==0)=false:=Xaj (by omega)
     have q3:((n:Int)==(s.size:Int)-1)=true:=Xa4 (by omega)
     have F:=Hd (NO.o ⟨by rw[←HX.o];exact e32,.inr (.inl (by rw[Xaa];exact nl))⟩)
     clear NXT NO e32 n0 nl
     go_wp2_with fail
     go_ret
     exact⟨by rw[F.o];rfl,by(first|exact hd.o|exact hd.o.drewN _)⟩
    obtain⟨y,hy⟩:=xq ((bs s).getD (n+1) 0)
    have hy2:y<256:=by rw[hy];exact Xba s (n+1)
    have y2:=fun w=>Xhc s w ((n:Int)+1) (n+1) (by omega) (by omega) y hy
    have q2:((n:Int)==0)=false:=Xaj (by omega)
    have q3:((n:Int)==(s.size:Int)-1)=false:=Xaj (by omega)
    by_cases f32:y=32
    ·have q4:((y:Int)==32)=true:=Xa4 (by omega)
     have F:=Hd (NO.o ⟨by rw[←HX.o];exact e32,.inr (.inr (by rw[←hy];exact f32))⟩)
     clear NXT NO e32 n0 nl f32 hy
     go_wp2_with fail
     go_ret
     exact⟨by rw[F.o];rfl,by(first|exact hd.o|exact hd.o.drewN _)⟩
    ·have q4:((y:Int)==32)=false:=Xaj (by omega)
     have F:=Hd (NXT.o (fun h=>h.2.elim (fun h=>n0 h) (fun h=>h.elim (fun h=>nl (by rw[Xaa] at h;exact h)) (fun h=>f32 (by rw[←hy] at h;exact h)))))
     clear NXT NO e32 n0 nl f32 hy
     go_wp2_with fail
     go_roundg (s.size-(n+1))
     case measure=>omega
     case rel=>exact⟨n+1,by omega,rfl,by go_num,F,by(first|exact hd|exact Hd (hd.o.drewN _))⟩
   ·have q1:((x:Int)==32)=false:=Xaj (by omega)
    have F:=Hd (NXT.o (fun h=>e32 (by rw[HX.o];exact h.1)))
    clear NXT NO e32
    go_wp2_with fail
    go_roundg (s.size-(n+1))
    case measure=>omega
    case rel=>exact⟨n+1,by omega,rfl,by go_num,F,by(first|exact hd|exact Hd (hd.o.drewN _))⟩
  ·have F:Hid (sqz (bs s)=true):=Hd ((Xx2 _).2 (fun i hi=>hv.o i (by rw[Xaa] at hi;omega)))
   clear hv
   go_wp2_with fail
   go_ret
   exact⟨by rw[F.o];rfl,by(first|exact hd.o|exact hd.o.drewN _)⟩
theorem Xdp {p:Nat→Bool}{l:List Nat}{k c:Nat}(hk:k<l.length)(hc:c=l.getD k 0)(h:p c=false):l.all p=false:=by
 rw[List.all_eq_false]
 refine⟨c,?_,by simp[h]⟩
 rw[hc];simp[List.getD,hk]
theorem Xb3 {p:Nat→Bool}{l:List Nat}{k c:Nat}(h0:(l.take k).all p=true)(hk:k<l.length)(hc:c=l.getD k 0)(h:p c=true):(l.take (k+1)).all p=true:=by
 rw[List.take_succ_eq_append_getElem hk,List.all_append,h0]
 have:l[k]=c:=by rw[hc];simp[List.getD,hk]
 simp[this,h]
theorem Xun (t:Bool)(l:List Nat):Xie t l=(vld l&&((rns l).map Prod.snd).all (gd t)):=by
 unfold Xie
 rw[List.all_map]
 rfl
theorem NRow.at {w:World}{v:Value}{ns:List Nat}(h:NRow w v ns)(j:Nat)(hj:j<ns.length):∃b off cap,v=.slice (some ⟨b,off,none⟩) ns.length cap∧ns.length≤cap∧b<w.heap.size∧w.cell? ⟨b,off+j,none⟩=some (.int .i64 (ns.getD j 0:Int)):=by
 obtain⟨a,cap,h1,h2,h3⟩:=h
 obtain⟨b,off,rfl,h5,h6⟩:=h3 (fun e=>by rw[e] at hj;simp at hj)
 exact⟨b,off,cap,h1,h2,h5,by rw[h6 j hj];simp[List.getD,hj]⟩
theorem Xkj (s:ByteArray)(most:Nat)(w:World)(hs:s.size≤10000000)(hm:most≤10000000):
    zJ 25 #[.string s,.int .i64 (most:Int)] w (.int .i64 (Xfp (bs s) most:Nat)):=by
 obtain⟨T,hT⟩:=xq (Xfp (bs s) most)
 rw[←hT]
 have TF:Hid (T=fe (eIf (decide (most<s.size)) 5) (fe (eIf (!(vld (bs s)&&((rns (bs s)).map Prod.snd).all (gd false))) 6) (eIf (!sqz (bs s)) 3))):=Hd (by rw[hT];unfold Xfp;rw[Xaa,Xun])
 clear hT
 by_cases hl:most<s.size
 ·have T5:Hid (T=5):=Hd (by rw[TF.o,zT hl];rfl)
  go_enter func25,ntmps25
  go_wp2_with fail
  go_ret
  exact⟨by rw[T5.o];rfl,zR _ _⟩
 have TG:Hid (T=fe (eIf (!(vld (bs s)&&((rns (bs s)).map Prod.snd).all (gd false))) 6) (eIf (!sqz (bs s)) 3)):=Hd (by rw[TF.o,zW hl];rfl)
 have A:=Hd (Ybw s w hs)
 have SQ:=Hd (fun w=>Xty s w (by unfold maxLen;omega))
 have LN:(rns (bs s)).length≤s.size:=by rw[←Xaa];exact Xyj _
 have LN2:((rns (bs s)).map Prod.snd).length≤s.size:=by rw[List.length_map];exact LN
 obtain⟨V,hV⟩:=xq (vld (bs s))
 obtain⟨ns,hns⟩:=xq ((rns (bs s)).map Prod.snd)
 have HV:=Hd hV
 rw[←hV,←hns] at TG
 obtain⟨m,hm2⟩:=xq ns.length
 rw[←hns,←hm2] at LN2
 have HNS:=Hd hns
 have HM:=Hd hm2
 clear TF LN hV hns hm2
 go_enter func25,ntmps25
 go_wp2_with fail
 refine A.o.mono ?_
 rintro e w1 ⟨v1,v2,a,er,rfl,r1,r2,h1,h2,_,hb⟩
 rw[←HNS.o] at r1
 have R1:=Hd r1
 have B1:=Hd hb
 cases V with
 |false=>
  have q1:((er:Int) !=0)=true:=Xam (by have:=h2 HV.o.symm;omega)
  have T6:Hid (T=6):=Hd (by rw[TG.o];rfl)
  clear A r1 r2 h1 h2 hb TG
  go_wp2_with fail
  go_ret
  exact⟨by rw[T6.o];rfl,B1.o⟩
 |true=>
  obtain rfl:=h1 HV.o.symm
  clear A r1 r2 h1 h2 hb
  obtain⟨ba,cap,rfl,hc,_⟩:=R1.o
  rw[←HM.o] at hc⊢
  go_wp2_with fail
  go_loopg [9] m (fun k i wr=>∃n:Nat,n≤m∧k=m-n∧i=.int .i64 (n:Int)∧Hid ((ns.take n).all (gd false)=true)∧Hid (Dr w1 wr))
  case atStart=>exact⟨0,by omega,rfl,rfl,Hd rfl,Hd (Dr.refl _)⟩
  case round=>
   obtain⟨n,hn,rfl,rfl,hg,hd⟩:=hrel
   by_cases b:n<m
   ·have hnl:n<ns.length:=by rw[←HM.o];exact b
    obtain⟨b0,off,cap',e0,_,hb0,hcell⟩:=R1.o.at n hnl
    obtain⟨x,hx⟩:=xq (ns.getD n 0)
    rw[←hx] at hcell
    cases e0
    have hcc:wr.cell? ⟨b0,off+n,none⟩=some (.int .i64 (x:Int)):=((Dr.below hd.o).cell (p:=⟨b0,off+n,none⟩) hb0).trans hcell
    obtain⟨c,hcx⟩:=xq (Xuw x)
    have C:=Hd (fun w=>Xt2 w x)
    rw[←hcx] at C
    have HC:=Hd hcx
    have HX:=Hd hx
    have HL:=Hd hnl
    clear hcell hx hcx hnl hb0
    cases c
    ·have G:Hid ((ns.take (n+1)).all (gd false)=true):=Hd (Xb3 hg.o HL.o HX.o (by unfold gd;rw[←HC.o];rfl))
     clear hg
     go_wp2_with (go_at_call 68;refine(C.o _).mono ?_;rintro e w' ⟨rfl,rfl⟩)
     go_roundg (m-(n+1))
     case measure=>omega
     case rel=>exact⟨n+1,by omega,rfl,by go_num,G,by(first|exact hd|exact Hd (hd.o.drewN _))⟩
    ·have T6:Hid (T=6):=Hd (by
        rw[TG.o,Xdp HL.o HX.o (by unfold gd;rw[←HC.o];rfl)]
        rfl)
     clear hg TG
     go_wp2_with (go_at_call 68;refine(C.o _).mono ?_;rintro e w' ⟨rfl,rfl⟩)
     go_ret
     exact⟨by rw[T6.o];rfl,B1.o.trans ((Dr.below (by(first|exact hd.o|exact hd.o.drewN _))).mono B1.o.size)⟩
   ·obtain rfl:n=m:=by omega
    have T7:Hid (T=eIf (!sqz (bs s)) 3):=Hd (by
     have h:=hg.o
     rw[List.take_of_length_le (by rw[HM.o];exact zL _)] at h
     rw[TG.o,h]
     rfl)
    obtain⟨q,hq⟩:=xq (sqz (bs s))
    rw[←hq] at SQ T7
    clear hg TG hq
    go_wp2_with fail
    refine(SQ.o _).mono ?_
    rintro e w2 ⟨rfl,hd2⟩
    have D2:=Hd hd2
    clear hd2
    cases q
    ·go_wp2_with fail
     go_ret
     exact⟨by rw[T7.o];rfl,B1.o.trans ((Dr.below hd.o).trans ((Dr.below D2.o).mono (Nat.le_of_eq (Dr.size hd.o).symm))|>.mono B1.o.size)⟩
    ·go_wp2_with fail
     go_ret
     exact⟨by rw[T7.o];rfl,B1.o.trans ((Dr.below hd.o).trans ((Dr.below D2.o).mono (Nat.le_of_eq (Dr.size hd.o).symm))|>.mono B1.o.size)⟩
theorem Yfu (p:Nat→Bool):∀(m:List Nat) (k:Nat),k≤m.length→(∀j,j<k→p (m.getD j 0)=true)→(k=m.length∨p (m.getD k 0)=false)→(m.takeWhile p).length=k
 |[],k,hk,_,_=>by simp at hk;subst hk;rfl
 |x::m,0,hk,h1,h2=>by
  rcases h2 with h2|h2
  ·simp at h2
  ·have:p x=false:=h2
   simp[this]
 |x::m,k+1,hk,h1,h2=>by
  have h0:p x=true:=h1 0 (by omega)
  have:=Yfu p m k (by simpa using hk) (fun j hj=>h1 (j+1) (by omega)) (by
   rcases h2 with h2|h2
   ·left;simpa using h2
   ·right;exact h2)
  simp[h0,this]
theorem Yh2 (l:List Nat)(a n:Nat)(h1:a≤n)(h2:n≤l.length)(h3:∀j,a≤j→j<n→l.getD j 0≠10)(h4:n=l.length∨l.getD n 0=10):a+(Xfj (l.drop a)).length=n:=by
 have hg:∀j,(l.drop a).getD j 0=l.getD (a+j) 0:=fun j=>by simp[List.getD]
 have:=Yfu (fun c=>!decide (c=10)) (l.drop a) (n-a) (by rw[List.length_drop];omega) (fun j hj=>by
  rw[hg]
  have:=h3 (a+j) (by omega) (by omega)
  simp only[Bool.not_eq_true',decide_eq_false_iff_not]
  exact this) (by
  rcases h4 with h4|h4
  ·left;rw[List.length_drop];omega
  ·right;rw[hg,show a+(n-a)=n by omega,h4];rfl)
 unfold Xfj
 omega
theorem Xzh (l:List Nat):Xfj l=l.take (Xfj l).length:=by
 have h:Xfj l<+:l:=List.takeWhile_prefix _
 exact List.prefix_iff_eq_take.1 h
theorem Yfa:∀(n:Nat) (l:List Nat) (k:Nat),l.length≤n→l.length≤k→Xon k l=Xon l.length l:=by
 intro n
 induction n with
 |zero=>
  intro l k hl hk
  have:l=[]:=List.length_eq_zero_iff.1 (by omega)
  subst this
  cases k<;>rfl
 |succ n ih=>
  intro l k hl hk
  cases l with
  |nil=>cases k<;>rfl
  |cons a l=>
   cases k with
   |zero=>simp at hk
   |succ k=>
    rw[List.length_cons]
    simp only[Xon]
    have hlen:((a::l).drop ((Xfj (a::l)).length+1)).length≤l.length:=by simp
    have hl':l.length≤n:=by simpa using hl
    have hk':l.length≤k:=by simpa using hk
    rw[ih _ k (by omega) (by omega),ih _ l.length (by omega) (by omega)]
theorem Xw6 {l:List Nat}(h:l≠[]):Xf1 l=if(Xfj l).length=l.length then 4 else if 998<(Xfj l).length then 5 else if Xie true (Xfj l)=false then 6 else Xf1 (l.drop ((Xfj l).length+1)):=by
 cases l with
 |nil=>exact absurd rfl h
 |cons a l=>
  conv=>lhs;unfold Xf1
  rw[List.length_cons]
  simp only[Xon]
  rw[qN (List.cons_ne_nil _ _),Yfa l.length _ l.length (by simp) (by simp)]
  rfl
def Yb6 (l:List Nat)(w:World)(e:Ending)(w':World):Prop:=
 ∃r:Int,e=.returned (.int .i64 r)∧(Xie true l=true→r<0)∧(Xie true l=false→0≤r)∧-1≤r∧r≤20000000∧Bw w w'
theorem Xmm:∀(k a:Nat) (l:List Nat),∀p∈rsN k a l,p.1≤a+l.length
 |0,_,_,p,h=>by simp[rsN] at h
 |k+1,a,l,p,h=>by
  simp only[rsN] at h
  split at h
  ·cases h
  ·have hl:=(Xrf l).1
   rcases List.mem_cons.1 h with rfl|h
   ·simp
   ·have:=Xmm k (a+rn l) (l.drop (rn l)) p h
    rw[List.length_drop] at this
    omega
theorem Ydi (s:ByteArray)(w:World)(hs:s.size≤10000000):
    Calls prog 76 #[.string s] w (Yb6 (bs s) w):=by
 have A:=Hd (Ybw s w hs)
 have LN:(rns (bs s)).length≤s.size:=by rw[←Xaa];exact Xyj _
 have LN2:((rns (bs s)).map Prod.snd).length≤s.size:=by rw[List.length_map];exact LN
 obtain⟨g,hg⟩:=xq (Xie true (bs s))
 have TG:Hid (g=(vld (bs s)&&((rns (bs s)).map Prod.snd).all (gd true))):=Hd (by rw[hg,Xun])
 have EXT:Hid (∀(r:Int) w',(g=true→r<0)→(g=false→0≤r)→-1≤r→r≤20000000→Bw w w'→Yb6 (bs s) w (.returned (.int .i64 r)) w'):=Hd (fun r w' h1 h2 h3 h4 h5=>⟨r,rfl,by rw[←hg];exact h1,by rw[←hg];exact h2,h3,h4,h5⟩)
 obtain⟨V,hV⟩:=xq (vld (bs s))
 obtain⟨ns,hns⟩:=xq ((rns (bs s)).map Prod.snd)
 obtain⟨os,hos⟩:=xq ((rns (bs s)).map Prod.fst)
 have HV:=Hd hV
 rw[←hV,←hns] at TG
 obtain⟨m,hm2⟩:=xq ns.length
 rw[←hns,←hm2] at LN2
 have OL:Hid (os.length=m):=Hd (by rw[hos,hm2,hns,List.length_map,List.length_map])
 have OB:Hid (∀j,os.getD j 0≤s.size):=Hd (fun j=>by
  by_cases h:j<os.length
  ·have hm:=zG h
   rw[List.getD_eq_getElem?_getD,List.getElem?_eq_getElem h]
   have hm':os[j]∈(rns (bs s)).map Prod.fst:=by rw[←hos];exact hm
   obtain⟨p,hp,e⟩:=List.mem_map.1 hm'
   have:=Xmm _ _ _ p hp
   rw[Xaa] at this
   simp only[Option.getD_some]
   have e2:os[j]=p.1:=by rw[e]
   omega
  ·rw[List.getD_eq_getElem?_getD,List.getElem?_eq_none (by omega)];simp)
 have HNS:=Hd hns
 have HOS:=Hd hos
 have HM:=Hd hm2
 have SZ:=Hd hs
 clear LN hV hns hm2 hos hg
 go_enter func76,ntmps76
 go_wp2_with fail
 refine A.o.mono ?_
 rintro e w1 ⟨v1,v2,a,er,rfl,r1,r2,h1,h2,ha,hb⟩
 rw[Xaa] at ha
 rw[←HNS.o] at r1
 rw[←HOS.o] at r2
 have R1:=Hd r1;have R2:=Hd r2
 have B1:=Hd hb
 have ER:Hid ((V=true→er=0)∧(V=false→er≠0)):=Hd ⟨fun h=>h1 (HV.o.symm.trans h),fun h=>h2 (HV.o.symm.trans h)⟩
 clear A r1 r2 h1 h2 hb
 obtain⟨ba,cap,rfl,hc,_⟩:=R1.o
 rw[←HM.o] at hc⊢
 go_wp2_with fail
 go_loopg [7] m (fun k i wr=>∃n:Nat,n≤m∧k=m-n∧i=.int .i64 (n:Int)∧Hid ((ns.take n).all (gd true)=true)∧Hid (Dr w1 wr))
 case atStart=>exact⟨0,by omega,rfl,rfl,Hd rfl,Hd (Dr.refl _)⟩
 case round=>
  obtain⟨n,hn,rfl,rfl,hg,hd⟩:=hrel
  have BD:Hid (Bw w wr):=Hd (B1.o.trans ((Dr.below hd.o).mono B1.o.size))
  by_cases b:n<m
  ·have hnl:n<ns.length:=by rw[←HM.o];exact b
   obtain⟨b0,off,cap',e0,_,hb0,hcell⟩:=R1.o.at n hnl
   obtain⟨x,hx⟩:=xq (ns.getD n 0)
   rw[←hx] at hcell
   cases e0
   have hcc:wr.cell? ⟨b0,off+n,none⟩=some (.int .i64 (x:Int)):=((Dr.below hd.o).cell (p:=⟨b0,off+n,none⟩) hb0).trans hcell
   obtain⟨c,hcx⟩:=xq (Xuw x)
   have C:=Hd (fun w=>Xt2 w x)
   rw[←hcx] at C
   have HC:=Hd hcx
   have HX:=Hd hx
   have HL:=Hd hnl
   clear hcell hx hcx hnl hb0
   cases c
   ·have G:Hid ((ns.take (n+1)).all (gd true)=true):=Hd (Xb3 hg.o HL.o HX.o (by unfold gd;rw[←HC.o];rfl))
    clear hg
    go_wp2_with (go_at_call 68;refine(C.o _).mono ?_;rintro e w' ⟨rfl,rfl⟩)
    go_roundg (m-(n+1))
    case measure=>omega
    case rel=>exact⟨n+1,by omega,rfl,by go_num,G,by(first|exact hd|exact Hd (hd.o.drewN _))⟩
   ·by_cases x9:x=9
    ·have q1:((x:Int) !=9)=false:=Xau (by omega)
     have G:Hid ((ns.take (n+1)).all (gd true)=true):=Hd (Xb3 hg.o HL.o HX.o (by unfold gd;rw[zT x9,Bool.and_self,Bool.or_true]))
     clear hg x9
     go_wp2_with (go_at_call 68;refine(C.o _).mono ?_;rintro e w' ⟨rfl,rfl⟩)
     go_roundg (m-(n+1))
     case measure=>omega
     case rel=>exact⟨n+1,by omega,rfl,by go_num,G,by(first|exact hd|exact Hd (hd.o.drewN _))⟩
    ·have q1:((x:Int) !=9)=true:=Xam (by omega)
     have G:Hid (g=false):=Hd (by rw[TG.o,Xdp HL.o HX.o (by unfold gd;rw[←HC.o,zW x9];rfl),Bool.and_false])
     obtain⟨b2,off2,cap2,e2,hc2,hb2,hcell2⟩:=R2.o.at n (by rw[OL.o];exact b)
     obtain⟨y,hy⟩:=xq (os.getD n 0)
     have hys:y≤s.size:=by rw[hy];exact OB.o n
     rw[←hy] at hcell2
     subst e2
     rw[OL.o] at hc2⊢
     have hcc2:wr.cell? ⟨b2,off2+n,none⟩=some (.int .i64 (y:Int)):=((Dr.below hd.o).cell (p:=⟨b2,off2+n,none⟩) hb2).trans hcell2
     clear hg x9 hcell2 hy hb2
     go_wp2_with (go_at_call 68;refine(C.o _).mono ?_;rintro e w' ⟨rfl,rfl⟩)
     go_ret
     exact EXT.o _ _ (fun h=>by rw[G.o] at h;cases h) (fun _=>by omega) (by omega) (by have:=SZ.o;omega) (by(first|exact BD.o|exact BD.o.drew|exact BD.o.trans ((Dr.below ((Dr.refl _).drewN _)).mono BD.o.size)))
  ·obtain rfl:n=m:=by omega
   have GV:Hid (g=V):=Hd (by
    have h:=hg.o
    rw[List.take_of_length_le (by rw[HM.o];exact zL _)] at h
    rw[TG.o,h,Bool.and_true])
   clear hg
   cases V with
   |true=>
    obtain rfl:=ER.o.1 rfl
    go_wp2_with fail
    go_ret
    exact EXT.o _ _ (fun _=>by decide) (fun h=>by rw[GV.o] at h;cases h) (by decide) (by decide) BD.o
   |false=>
    have q1:((er:Int) !=0)=true:=Xam (by have:=ER.o.2 rfl;omega)
    go_wp2_with fail
    go_ret
    exact EXT.o _ _ (fun h=>by rw[GV.o] at h;cases h) (fun _=>by omega) (by omega) (by have:=SZ.o;omega) BD.o
theorem Ydf (s:ByteArray)(a:Nat)(w:World)(hs:s.size≤10000000)(ha:a≤s.size):
    Rz 75 #[.string s,.int .i64 (a:Int)] w (.int .i64 ((a+(Xfj ((bs s).drop a)).length:Nat):Int)):=by
 go_enter func75,ntmps75
 go_wp2_with fail
 go_loopg [1] (s.size-a) (fun k i wr=>∃n:Nat,a≤n∧n≤s.size∧k=s.size-n∧i=.int .i64 (n:Int)∧Hid (∀j,a≤j→j<n→(bs s).getD j 0≠10)∧Hid (Dr w wr))
 case atStart=>exact⟨a,by omega,by omega,rfl,rfl,Hd (fun j h1 h2=>by omega),Hd (Dr.refl _)⟩
 case round=>
  obtain⟨n,h1,h2,rfl,rfl,hv,hd⟩:=hrel
  have E:Hid (n=s.size∨(bs s).getD n 0=10→n=a+(Xfj ((bs s).drop a)).length):=Hd (fun h=>(Yh2 (bs s) a n h1 (by rw[Xaa];exact h2) hv.o (by rw[Xaa];exact h)).symm)
  by_cases b:n<s.size
  ·obtain⟨x,hx⟩:=xq ((bs s).getD n 0)
   have hx2:x<256:=by rw[hx];exact Xba s n
   have y1:=fun w=>Xhc s w n n rfl b x hx
   have HX:=Hd hx
   clear hx
   by_cases e10:x=10
   ·have q1:((x:Int) !=10)=false:=Xau (by omega)
    have F:=Hd (E.o (.inr (by rw[←HX.o];exact e10)))
    clear hv E e10
    go_wp2_with fail
    go_ret
    exact⟨by rw[←F.o];rfl,by(first|exact hd.o|exact hd.o.drewN _)⟩
   ·have q1:((x:Int) !=10)=true:=Xam (by omega)
    have F:Hid (∀j,a≤j→j<n+1→(bs s).getD j 0≠10):=Hd (fun j g1 g2=>by
     rcases Nat.lt_succ_iff_lt_or_eq.1 g2 with g|rfl
     ·exact hv.o j g1 g
     ·rw[←HX.o];exact e10)
    clear hv E e10
    go_wp2_with fail
    go_roundg (s.size-(n+1))
    case measure=>omega
    case rel=>exact⟨n+1,by omega,by omega,rfl,by go_num,F,by(first|exact hd|exact Hd (hd.o.drewN _))⟩
  ·have F:=Hd (E.o (.inl (by omega)))
   clear hv E
   go_wp2_with fail
   go_ret
   exact⟨by rw[←F.o];rfl,by(first|exact hd.o|exact hd.o.drewN _)⟩
def Yb1 (l:List Nat)(w:World)(e:Ending)(w':World):Prop:=∃n:Int,e=.returned (.tuple #[.int .i64 n,.int .i64 (Xf1 l:Nat)])∧Bw w w'
theorem Xyw (s:ByteArray)(w:World)(hs:s.size≤10000000):
    Calls prog 32 #[.string s] w (Yb1 (bs s) w):=by
 obtain⟨T,hT⟩:=xq (Xf1 (bs s))
 have FIN:Hid (∀(n:Int) (t:Nat) w',t=T→Bw w w'→Yb1 (bs s) w (.returned (.tuple #[.int .i64 n,.int .i64 (t:Int)])) w'):=Hd (by
  rintro n t w' rfl h
  exact⟨n,by rw[hT],h⟩)
 have HT:=Hd hT
 clear hT
 go_enter func32,ntmps32
 go_wp2_with fail
 go_loopg [4] s.size (fun k i wr=>∃n:Nat,n≤s.size∧k=s.size-n∧i=.int .i64 (n:Int)∧Hid (T=Xf1 ((bs s).drop n))∧Hid (Bw w wr))
 case atStart=>exact⟨0,by omega,rfl,rfl,HT,Hd (zR _ _)⟩
 case round=>
  obtain⟨n,h2,rfl,rfl,hv,hb⟩:=hrel
  by_cases b:n<s.size
  ·have hlt:((bs s).drop n).length=s.size-n:=by rw[List.length_drop,Xaa]
   have hne:(bs s).drop n≠[]:=by intro e;rw[e] at hlt;simp at hlt;omega
   have ST:=Xw6 hne
   have HE:=Hd (Ydf s n wr hs h2)
   have hll:=Xry ((bs s).drop n)
   rw[hlt] at hll ST
   obtain⟨m,hm⟩:=xq ((Xfj ((bs s).drop n)).length)
   have LT:Hid (Xfj ((bs s).drop n)=bs (s.extract n (n+m))):=Hd (by rw[Xzh,←hm,Xbz,List.drop_take];congr 1;omega)
   rw[←hm] at hll ST HE
   rw[List.drop_drop] at ST
   have STH:Hid (T=if m=s.size-n then 4 else if 998<m then 5 else if Xie true (bs (s.extract n (n+m)))=false then 6 else Xf1 ((bs s).drop (n+(m+1)))):=Hd (by rw[hv.o,ST,LT.o])
   clear hlt hne ST hm hv LT
   go_wp2_with fail
   refine HE.o.mono ?_
   rintro e w1 ⟨rfl,hd1⟩
   have B1:=Hd (hb.o.trans ((Dr.below hd1).mono hb.o.size))
   clear hd1 HE
   by_cases c1:m=s.size-n
   ·have q1:(((n+m:Nat):Int)==(s.size:Int))=true:=Xa4 (by omega)
    have F:Hid (4=T):=Hd (by rw[STH.o,qP c1])
    clear STH c1
    go_wp2_with fail
    go_ret2
    exact FIN.o _ 4 _ F.o B1.o
   have q1:(((n+m:Nat):Int)==(s.size:Int))=false:=Xaj (by omega)
   by_cases c2:998<m
   ·have F:Hid (5=T):=Hd (by rw[STH.o,qN c1,qP c2])
    clear STH c1
    go_wp2_with fail
    go_ret2
    exact FIN.o _ 5 _ F.o B1.o
   have BA:=Hd (fun w=>Ydi (s.extract n (n+m)) w (by rw[ByteArray.size_extract];omega))
   obtain⟨g,hg⟩:=xq (Xie true (bs (s.extract n (n+m))))
   have HG:=Hd hg
   have ST2:Hid (T=if g=false then 6 else Xf1 ((bs s).drop (n+(m+1)))):=Hd (by rw[STH.o,qN c1,qN c2,←hg])
   have c3:n+m<s.size:=by omega
   clear STH c1 hg
   go_wp2_with fail
   refine(BA.o _).mono ?_
   rintro e w2 ⟨r,rfl,g1,g2,r1,r2,hb2⟩
   have B2:=bh B1 hb2
   have G1:=Hd (fun h=>g1 (HG.o.symm.trans h));have G2:=Hd (fun h=>g2 (HG.o.symm.trans h))
   clear g1 g2 hb2 BA HG
   cases g with
   |false=>
    have:=G2.o rfl
    have F:Hid (6=T):=Hd (by rw[ST2.o];rfl)
    clear ST2
    go_wp2_with fail
    go_ret2
    exact FIN.o _ 6 _ F.o B2.o
   |true=>
    have:=G1.o rfl
    have F:Hid (T=Xf1 ((bs s).drop (n+(m+1)))):=Hd (by rw[ST2.o];rfl)
    clear ST2
    go_wp2_with fail
    go_roundg (s.size-(n+(m+1)))
    case measure=>omega
    case rel=>exact⟨n+(m+1),by omega,rfl,by go_num,F,B2⟩
  ·have F:Hid (0=T):=Hd (by rw[hv.o,List.drop_of_length_le (by rw[Xaa];omega)];rfl)
   clear hv
   go_wp2_with fail
   go_ret2
   exact FIN.o _ 0 _ F.o hb.o
theorem Yda (w:World)(c:Nat)(hc:c<256):Rx 73 #[.int .u8 (c:Int)] w (.bool (low c)):=by
 rcases(by omega:c<97∨(97≤c∧c≤122)∨122<c) with h|⟨h,h2⟩|h
 all_goals
  go_enter func73,ntmps73
  go_wp2_with fail
  go_ret
  exact⟨Xa0 (by rw[Bool.eq_iff_iff];simp[low];try omega),rfl⟩
theorem Xvy (w:World)(c:Nat)(hc:c<256):Rx 74 #[.int .u8 (c:Int)] w (.bool (dig c)):=by
 rcases(by omega:c<48∨(48≤c∧c≤57)∨57<c) with h|⟨h,h2⟩|h
 all_goals
  go_enter func74,ntmps74
  go_wp2_with fail
  go_ret
  exact⟨Xa0 (by rw[Bool.eq_iff_iff];simp[dig];try omega),rfl⟩
theorem Xvl (w:World)(n:Int):Rx 26 #[.int .i64 n] w (.bool (!(decide (n<0)||decide (105190559<n)))):=by
 rcases(by omega:n<0∨(0≤n∧n≤105190559)∨105190559<n) with h|⟨h,h2⟩|h
 all_goals
  go_enter func26,ntmps26
  go_wp2_with fail
  go_ret
  exact⟨Xa0 (by(first|(rw[Bool.eq_iff_iff];done)|(rw[Bool.eq_iff_iff];simp;done)|(rw[Bool.eq_iff_iff];simp;omega))),rfl⟩
theorem Xyt (s:ByteArray)(w:World)(hs:s.size≤maxLen):
    Rz 31 #[.string s] w (.int .i64 (Xli (bs s):Nat)):=by
 unfold maxLen at hs
 obtain⟨T,hT⟩:=xq (Xli (bs s))
 rw[←hT]
 have TF:Hid (T=fe (eIf (decide (20<s.size)) 5) (eIf ((bs s).any dsB) 6)):=Hd (by rw[hT];unfold Xli;rw[Xaa];rfl)
 clear hT
 by_cases hl:20<s.size
 ·have T5:Hid (T=5):=Hd (by rw[TF.o,zT hl];rfl)
  go_enter func31,ntmps31
  go_wp2_with fail
  go_ret
  exact⟨by rw[T5.o];rfl,Dr.refl _⟩
 have TG:Hid (T=eIf ((bs s).any dsB) 6):=Hd (by rw[TF.o,zW hl];rfl)
 clear TF
 go_enter func31,ntmps31
 go_wp2_with fail
 go_loopg [3] s.size (fun k i wr=>∃n:Nat,n≤s.size∧k=s.size-n∧i=.int .i64 (n:Int)∧Hid (((bs s).take n).any dsB=false)∧Hid (Dr w wr))
 case atStart=>exact⟨0,by omega,rfl,rfl,Hd rfl,Hd (Dr.refl _)⟩
 case round=>
  obtain⟨n,hn,rfl,rfl,hv,hd⟩:=hrel
  by_cases b:n<s.size
  ·obtain⟨x,hx⟩:=xq ((bs s).getD n 0)
   have hx2:x<256:=by rw[hx];exact Xba s n
   have y1:=fun w=>Xhc s w n n rfl b x hx
   have LO:=Hd (fun w=>Yda w x hx2)
   have DI:=Hd (fun w=>Xvy w x hx2)
   obtain⟨l,hlw⟩:=xq (low x)
   obtain⟨d,hdg⟩:=xq (dig x)
   rw[←hlw] at LO
   rw[←hdg] at DI
   obtain⟨q,hq⟩:=xq (dsB x)
   have HQ:Hid (q=(!l&&!d&&!decide (x=45))):=Hd (by rw[hq,hlw,hdg];rfl)
   have NX:Hid (q=false→((bs s).take (n+1)).any dsB=false):=Hd (fun h=>Xib hv.o (by rw[Xaa];exact b) hx (hq.symm.trans h))
   have NO:Hid (q=true→(bs s).any dsB=true):=Hd (fun h=>Xjc (by rw[Xaa];exact b) hx (hq.symm.trans h))
   clear hx hlw hdg hq hv
   cases l with
   |true=>
    have F:=Hd (NX.o (by rw[HQ.o];rfl))
    clear NX NO
    go_wp2_with (first|(go_at_call 73;refine(LO.o _).mono ?_;rintro e w' ⟨rfl,rfl⟩)|(go_at_call 74;refine(DI.o _).mono ?_;rintro e w' ⟨rfl,rfl⟩))
    go_roundg (s.size-(n+1))
    case measure=>omega
    case rel=>exact⟨n+1,by omega,rfl,by go_num,F,by(first|exact hd|exact Hd (hd.o.drewN _))⟩
   |false=>
    cases d with
    |true=>
     have F:=Hd (NX.o (by rw[HQ.o];rfl))
     clear NX NO
     go_wp2_with (first|(go_at_call 73;refine(LO.o _).mono ?_;rintro e w' ⟨rfl,rfl⟩)|(go_at_call 74;refine(DI.o _).mono ?_;rintro e w' ⟨rfl,rfl⟩))
     go_roundg (s.size-(n+1))
     case measure=>omega
     case rel=>exact⟨n+1,by omega,rfl,by go_num,F,by(first|exact hd|exact Hd (hd.o.drewN _))⟩
    |false=>
     by_cases e45:x=45
     ·have q1:((x:Int) !=45)=false:=Xau (by omega)
      have F:=Hd (NX.o (by rw[HQ.o,zT e45];rfl))
      clear NX NO e45
      go_wp2_with (first|(go_at_call 73;refine(LO.o _).mono ?_;rintro e w' ⟨rfl,rfl⟩)|(go_at_call 74;refine(DI.o _).mono ?_;rintro e w' ⟨rfl,rfl⟩))
      go_roundg (s.size-(n+1))
      case measure=>omega
      case rel=>exact⟨n+1,by omega,rfl,by go_num,F,by(first|exact hd|exact Hd (hd.o.drewN _))⟩
     ·have q1:((x:Int) !=45)=true:=Xam (by omega)
      have F:=Hd (NO.o (by rw[HQ.o,zW e45];rfl))
      have T6:Hid (T=6):=Hd (by rw[TG.o,F.o];rfl)
      clear NX NO e45
      go_wp2_with (first|(go_at_call 73;refine(LO.o _).mono ?_;rintro e w' ⟨rfl,rfl⟩)|(go_at_call 74;refine(DI.o _).mono ?_;rintro e w' ⟨rfl,rfl⟩))
      go_ret
      exact⟨by rw[T6.o];rfl,by(first|exact hd.o|exact hd.o.drewN _)⟩
  ·have T0:Hid (T=0):=Hd (by rw[TG.o,Xjd hv.o (by rw[Xaa];omega)];rfl)
   clear hv
   go_wp2_with fail
   go_ret
   exact⟨by rw[T0.o];rfl,by(first|exact hd.o|exact hd.o.drewN _)⟩
theorem Xyv (s:ByteArray)(w:World)(hs:s.size≤maxLen):
    Rz 167 #[.string s] w (.bool (Xeq (bs s))):=by
 unfold maxLen at hs
 obtain⟨T,hT⟩:=xq (Xeq (bs s))
 rw[←hT]
 have TF:Hid (T=(!(bs s).isEmpty&&decide (s.size≤20)&&low ((bs s).getD 0 0)&&(bs s).all nmC)):=Hd (by rw[hT];unfold Xeq;rw[Xaa])
 clear hT
 by_cases h0:s.size=0
 ·have F:Hid (T=false):=Hd (by rw[TF.o,Xuz h0];rfl)
  obtain rfl:=Xeh h0
  clear TF h0 hs
  go_enter func167,ntmps167
  go_wp2_with fail
  go_ret
  exact⟨by rw[F.o];rfl,Dr.refl _⟩
 have NE:Hid ((bs s).isEmpty=false):=Hd (by rw[List.isEmpty_eq_false_iff];intro e;have:=congrArg List.length e;rw[Xaa] at this;exact h0 this)
 by_cases h20:20<s.size
 ·have F:Hid (T=false):=Hd (by rw[TF.o,zW (by omega)];simp)
  clear TF
  go_enter func167,ntmps167
  go_wp2_with fail
  go_ret
  exact⟨by rw[F.o];rfl,Dr.refl _⟩
 obtain⟨c,hc⟩:=xq ((bs s).getD 0 0)
 have hc2:c<256:=by rw[hc];exact Xba s 0
 have x0:=Yb9 s c hc (by omega)
 have TG:Hid (T=(low c&&(bs s).all nmC)):=Hd (by rw[TF.o,NE.o,zT (show s.size≤20 by omega),hc];simp)
 have HC:=Hd hc
 clear TF NE hc
 by_cases hlo:c<97
 ·have F:Hid (T=false):=Hd (by rw[TG.o];unfold low;rw[zW (by omega)];rfl)
  go_enter func167,ntmps167
  go_wp2_with fail
  go_ret
  exact⟨by rw[F.o];rfl,Dr.refl _⟩
 by_cases hhi:122<c
 ·have F:Hid (T=false):=Hd (by rw[TG.o];unfold low;rw[zW (show¬c≤122 by omega)];simp)
  go_enter func167,ntmps167
  go_wp2_with fail
  go_ret
  exact⟨by rw[F.o];rfl,Dr.refl _⟩
 have LC:low c=true:=by unfold low;rw[zT (show 97≤c by omega),zT (show c≤122 by omega)];rfl
 have TA:Hid (T=(bs s).all nmC):=Hd (by rw[TG.o,LC];rfl)
 have S1:Hid (((bs s).take 1).all nmC=true):=Hd (Xb3 (k:=0) rfl (by rw[Xaa];omega) HC.o (by unfold nmC;rw[LC];rfl))
 clear TG LC
 go_enter func167,ntmps167
 go_wp2_with fail
 go_loopg [3,4] s.size (fun k i c wr=>∃n:Nat,1≤n∧n≤s.size∧k=s.size+1-n∧i=.int .i64 (n:Int)∧Hid (((bs s).take n).all nmC=true)∧Hid (Dr w wr))
 case atStart=>exact⟨1,by omega,by omega,by omega,rfl,S1,Hd (Dr.refl _)⟩
 case round=>
  obtain⟨n,h1,hn,rfl,rfl,hv,hd⟩:=hrel
  by_cases b:n<s.size
  ·obtain⟨x,hx⟩:=xq ((bs s).getD n 0)
   have hx2:x<256:=by rw[hx];exact Xba s n
   have y1:=fun w=>Xhc s w n n rfl b x hx
   have NX:Hid (nmC x=true→((bs s).take (n+1)).all nmC=true):=Hd (fun h=>Xb3 hv.o (by rw[Xaa];exact b) hx h)
   have NO:Hid (nmC x=false→(bs s).all nmC=false):=Hd (fun h=>Xdp (by rw[Xaa];exact b) hx h)
   clear hx hv
   rcases(by omega:(97≤x∧x≤122)∨(48≤x∧x≤57)∨x=45∨x=43∨x=95∨(x<43)∨(x=44)∨(45<x∧x<48)∨(57<x∧x<95)∨x=96∨122<x) with⟨h,h2⟩|⟨h,h2⟩|h|h|h|h|h|⟨h,h2⟩|⟨h,h2⟩|h|h
   all_goals
    first
     |have F:=Hd (NX.o (by simp[nmC,low,dig];omega))
      clear NX NO
      try have q1:((x:Int)==45)=true:=Xa4 (by omega)
      try have q2:((x:Int)==43)=true:=Xa4 (by omega)
      try have q3:((x:Int)==95)=true:=Xa4 (by omega)
      try have q1:((x:Int)==45)=false:=Xaj (by omega)
      try have q2:((x:Int)==43)=false:=Xaj (by omega)
      try have q3:((x:Int)==95)=false:=Xaj (by omega)
      go_wp2_with fail
      go_roundg (s.size+1-(n+1))
      case measure=>omega
      case rel=>exact⟨n+1,by omega,by omega,rfl,by go_num,F,by(first|exact hd|exact Hd (hd.o.drewN _))⟩
     |have F:Hid (T=false):=Hd (by rw[TA.o,NO.o (by simp[nmC,low,dig];omega)])
      clear NX NO
      try have q1:((x:Int)==45)=false:=Xaj (by omega)
      try have q2:((x:Int)==43)=false:=Xaj (by omega)
      try have q3:((x:Int)==95)=false:=Xaj (by omega)
      go_wp2_with fail
      all_goals
       first
        |(go_ret;exact⟨by rw[F.o];rfl,by(first|exact hd.o|exact hd.o.drewN _)⟩)
        |(exfalso;simp only[Bool.not_eq_false',decide_eq_true_eq] at*;omega)
  ·have F:Hid (T=true):=Hd (by have h:=hv.o;rw[List.take_of_length_le (by rw[Xaa];omega)] at h;rw[TA.o,h])
   clear hv
   go_wp2_with fail
   go_ret
   exact⟨by rw[F.o];rfl,by(first|exact hd.o|exact hd.o.drewN _)⟩
def ahd (p:List Nat):List (List Nat)→List (List Nat)
 |[]=>[p]
 |h::r=>(p++h)::r
theorem Ybx (c:Nat)(p t:List Nat):ahd p (spl c (c::t))=p::ahd [] (spl c t):=by
 simp only[spl,if_true,ahd,List.append_nil]
 cases h:spl c t with
 |nil=>exact absurd h (Xkc c t)
 |cons a r=>rfl
theorem Xu5 (c x:Nat)(hx:x≠c)(p t:List Nat):ahd p (spl c (x::t))=ahd (p++[x]) (spl c t):=by
 simp only[spl,qN hx]
 cases h:spl c t with
 |nil=>exact absurd h (Xkc c t)
 |cons a r=>simp[ahd]
theorem Yby (c:Nat)(p:List Nat):ahd p (spl c [])=[p]:=by simp[spl,ahd]
theorem Xqz (c:Nat)(l:List Nat):ahd [] (spl c l)=spl c l:=by
 cases h:spl c l with
 |nil=>exact absurd h (Xkc c l)
 |cons a r=>rfl
theorem Xqf {l:List Nat}{n:Nat}(h:n<l.length):l.drop n=l.getD n 0::l.drop (n+1):=by
 rw[List.drop_eq_getElem_cons h];simp[List.getD,h]
structure PaI (s:ByteArray) (c:Nat) (w:World) (n:Nat) (v:Value) (gs:List ByteArray) (cur:ByteArray) (wr:World):Prop where
 eq:spl c (bs s)=gs.map bs++ahd (bs cur) (spl c ((bs s).drop n))
 row:wr.ownsRow w.heap.size 9 1 v gs.length (gs.map Value.string)
 siz:∀g∈gs,g.size≤s.size
 cur:cur.size≤n
 num:gs.length≤n
 bel:Bw w wr
theorem PaI.post {s:ByteArray}{c:Nat}{w:World}{v:Value}{gs:List ByteArray}{wr:World}(h:gs.map bs=spl c (bs s))(hr:wr.ownsRow w.heap.size 9 1 v gs.length (gs.map Value.string))(hs:∀g∈gs,g.size≤s.size)(hn:gs.length≤s.size+1)(hb:Bw w wr):Xiz c s w (.returned v) wr:=
 ⟨v,gs,rfl,h,Xny hr,hs,hn,hr,hb⟩
theorem Xvq (s:ByteArray)(c:Nat)(w:World)(hs:s.size≤10000000)(hc:c<256):
    Calls prog 166 #[.string s,.int .u8 (c:Int)] w (Xiz c s w):=by
 obtain⟨i0,hi0,hz0,hz1,hz2⟩:=info_parts Yed
 go_enter func166,ntmps166
 go_wp2_with fail
 go_loopg [5,6,7] s.size (fun k v p i wr=>∃(n:Nat) (gs:List ByteArray) (cur:ByteArray),n≤s.size∧k=s.size-n∧i=.int .i64 (n:Int)∧p=.string cur∧Hid (PaI s c w n v gs cur wr))
 case atStart=>exact⟨0,[],⟨#[]⟩,by omega,rfl,rfl,rfl,Hd ⟨by rw[List.drop_zero];exact(Xqz c (bs s)).symm,World.ownsRow_nil _ _ _ _,(fun g h=>by cases h),zL _,zL _,zR _ _⟩⟩
 case round=>
  obtain⟨n,gs,cur,hn,rfl,rfl,rfl,J⟩:=hrel
  by_cases b:n<s.size
  ·obtain⟨x,hx⟩:=xq ((bs s).getD n 0)
   have hx2:x<256:=by rw[hx];exact Xba s n
   have y1:=fun w=>Xhc s w n n rfl b x hx
   have DG:Hid ((bs s).drop n=x::(bs s).drop (n+1)):=Hd (by rw[hx];exact Xqf (by rw[Xaa];exact b))
   have HX:=Hd hx
   clear hx
   obtain⟨m,hm⟩:=xq gs.length
   have HM:=Hd hm
   have hmn:m≤n:=by rw[hm];exact J.o.num
   have hcn:cur.size≤n:=J.o.cur
   have hwz:=J.o.bel.size
   by_cases e:x=c
   ·subst e
    have q1:((x:Int)==(x:Int))=true:=Xa4 rfl
    have EQ2:Hid (spl x (bs s)=(gs++[cur]).map bs++ahd (bs ⟨#[]⟩) (spl x ((bs s).drop (n+1)))):=Hd (by
     rw[J.o.eq,DG.o,Ybx,List.map_append,List.append_assoc];rfl)
    have RW:Hid (wr.ownsRow w.heap.size 9 1 u5 m (gs.map Value.string)):=Hd (by rw[HM.o];exact J.o.row)
    have SZ:Hid (∀g∈gs++[cur],g.size≤s.size):=Hd (fun g hg=>by
     rcases List.mem_append.1 hg with h|h
     ·exact J.o.siz g h
     ·simp at h;subst h;omega)
    have BE:=Hd J.o.bel
    clear J hm DG
    go_wp2_with (at_builtin;refine wpList_append_own _ rfl _ _ 23 rfl w.heap.size 9 i0 (.string ⟨#[]⟩) 1 16 underlying23 hi0 hz0 hz1 hz2 rfl (by decide) _ _ _ rfl (RW.o.alloc _) ⟨wr.heap.size,0,none⟩ 1 1 [.string cur] rfl rfl (World.news_of_block (cs:=#[.string cur]) (t:=9) (fr:=(0,0)) (zN wr _)) (by simp[Value.oneCell']) (by unfold maxLen;omega) (by omega) (by simp;omega) ?_;intro v' w3 hown' hgrow _)
    have O3:Hid (w3.ownsRow w.heap.size 9 1 v' (gs++[cur]).length ((gs++[cur]).map Value.string)):=Hd (by rw[List.length_append,←HM.o,List.map_append];exact hown')
    have B3:Hid (Bw w w3):=Hd (Below.grown (BE.o.alloc BE.o.size _) hgrow (by simp;omega) (fun k hk=>(RW.o.lt k hk).1))
    have NL:Hid ((gs++[cur]).length≤n+1):=Hd (by rw[List.length_append,←HM.o];simp;omega)
    clear hown' hgrow
    go_wp2_with fail
    go_roundg (s.size-(n+1))
    case measure=>omega
    case rel=>exact⟨n+1,gs++[cur],⟨#[]⟩,by omega,rfl,by go_num,rfl,Hd ⟨EQ2.o,O3.o,SZ.o,Nat.zero_le _,NL.o,B3.o⟩⟩
   ·have q1:((x:Int)==(c:Int))=false:=Xaj (by omega)
    have esz:(s.extract n (n+1)).size=1:=by rw[ByteArray.size_extract];omega
    have ebs:bs (s.extract n (n+1))=[x]:=by
     rw[Xbz,List.drop_take,DG.o];simp
    have JN:Hid (PaI s c w (n+1) u5 gs (cur++s.extract n (n+1)) wr):=Hd ⟨by
     rw[J.o.eq,DG.o,Xu5 c x e]
     have:bs (cur++s.extract n (n+1))=bs cur++[x]:=by rw[←ebs];unfold bs;rw[ByteArray.data_append,Array.toList_append,List.map_append]
     rw[this],J.o.row,J.o.siz,by rw[ByteArray.size_append,esz];omega,by omega,J.o.bel⟩
    clear J e DG ebs hm
    go_wp2_with fail
    go_roundg (s.size-(n+1))
    case measure=>omega
    case rel=>exact⟨n+1,gs,_,by omega,rfl,by go_num,rfl,JN⟩
  ·obtain rfl:n=s.size:=by omega
   obtain⟨m,hm⟩:=xq gs.length
   have HM:=Hd hm
   have hmn:m≤s.size:=by rw[hm];exact J.o.num
   have hcn:cur.size≤s.size:=J.o.cur
   have hwz:=J.o.bel.size
   have EQ2:Hid ((gs++[cur]).map bs=spl c (bs s)):=Hd (by
    rw[J.o.eq,List.drop_of_length_le (by rw[Xaa];exact zL _),Yby,List.map_append];rfl)
   have RW:Hid (wr.ownsRow w.heap.size 9 1 u5 m (gs.map Value.string)):=Hd (by rw[HM.o];exact J.o.row)
   have SZ:Hid (∀g∈gs++[cur],g.size≤s.size):=Hd (fun g hg=>by
    rcases List.mem_append.1 hg with h|h
    ·exact J.o.siz g h
    ·simp at h;subst h;omega)
   have BE:=Hd J.o.bel
   clear J hm
   go_wp2_with (at_builtin;refine wpList_append_own _ rfl _ _ 23 rfl w.heap.size 9 i0 (.string ⟨#[]⟩) 1 16 underlying23 hi0 hz0 hz1 hz2 rfl (by decide) _ _ _ rfl (RW.o.alloc _) ⟨wr.heap.size,0,none⟩ 1 1 [.string cur] rfl rfl (World.news_of_block (cs:=#[.string cur]) (t:=9) (fr:=(0,0)) (zN wr _)) (by simp[Value.oneCell']) (by unfold maxLen;omega) (by omega) (by simp;omega) ?_;intro v' w3 hown' hgrow _)
   have O3:Hid (w3.ownsRow w.heap.size 9 1 v' (gs++[cur]).length ((gs++[cur]).map Value.string)):=Hd (by rw[List.length_append,←HM.o,List.map_append];exact hown')
   have B3:Hid (Bw w w3):=Hd (Below.grown (BE.o.alloc BE.o.size _) hgrow (by simp;omega) (fun k hk=>(RW.o.lt k hk).1))
   have NL:Hid ((gs++[cur]).length≤s.size+1):=Hd (by rw[List.length_append,←HM.o];simp;omega)
   clear hown' hgrow
   go_wp2_with fail
   go_ret
   exact PaI.post EQ2.o O3.o SZ.o NL.o B3.o
def WdI (s:ByteArray)(c:Nat)(w:World)(n f:Nat)(v:Value)(gs:List ByteArray)(wr:World):Prop:=
 (n≤s.size∧f≤n∧PaI s c w n v gs (s.extract f n) wr)∨(n=s.size+1∧Xiz c s w (.returned v) wr)
theorem Xsz (s:ByteArray)(f n x:Nat)(h1:f≤n)(h2:n<s.size)(hx:x=(bs s).getD n 0):bs (s.extract f (n+1))=bs (s.extract f n)++[x]:=by
 have hl:n<(bs s).length:=by rw[Xaa];exact h2
 rw[Xbz,Xbz,List.take_succ_eq_append_getElem hl,List.drop_append_of_le_length (by rw[List.length_take];omega)]
 congr 1
 rw[hx];simp[List.getD,hl]
theorem Xm6 (s:ByteArray)(n:Nat):bs (s.extract n n)=[]:=by
 rw[Xbz];apply List.drop_eq_nil_of_le;rw[List.length_take];omega
theorem Xmk (s:ByteArray)(c:Nat)(w:World)(hs:s.size≤10000000)(hc:c<256):
    Calls prog 119 #[.string s,.int .u8 (c:Int)] w (Xiz c s w):=by
 obtain⟨i0,hi0,hz0,hz1,hz2⟩:=info_parts Yed
 go_enter func119,ntmps119
 go_wp2_with fail
 go_loopg [5,6,7] (s.size+1) (fun k v p i wr=>∃(n f:Nat) (gs:List ByteArray),n≤s.size+1∧f≤s.size+1∧k=s.size+1-n∧i=.int .i64 (n:Int)∧p=.int .i64 (f:Int)∧Hid (WdI s c w n f v gs wr))
 case atStart=>exact⟨0,0,[],by omega,by omega,rfl,rfl,rfl,Hd (.inl ⟨Nat.zero_le _,zL _,by rw[List.drop_zero,Xm6];exact(Xqz c (bs s)).symm,World.ownsRow_nil _ _ _ _,(fun g h=>by cases h),by rw[ByteArray.size_extract];omega,zL _,zR _ _⟩)⟩
 case round=>
  obtain⟨n,f,gs,hn,hf,rfl,rfl,rfl,J0⟩:=hrel
  rcases J0.o with⟨hn1,hfn,J1⟩|⟨rfl,J1⟩
  ·have J:=Hd J1
   obtain⟨m,hm⟩:=xq gs.length
   have HM:=Hd hm
   have hmn:m≤n:=by rw[hm];exact J.o.num
   have hwz:=J.o.bel.size
   have esz:(s.extract f n).size≤s.size:=by rw[ByteArray.size_extract];omega
   have SZ:Hid (∀g∈gs++[s.extract f n],g.size≤s.size):=Hd (fun g hg=>by
    rcases List.mem_append.1 hg with h|h
    ·exact J.o.siz g h
    ·simp at h;subst h;exact esz)
   have RW:Hid (wr.ownsRow w.heap.size 9 1 u5 m (gs.map Value.string)):=Hd (by rw[HM.o];exact J.o.row)
   have BE:=Hd J.o.bel
   clear J0 J1 esz
   by_cases b:n<s.size
   ·obtain⟨x,hx⟩:=xq ((bs s).getD n 0)
    have hx2:x<256:=by rw[hx];exact Xba s n
    have y1:=fun w=>Xhc s w n n rfl b x hx
    have q0:((n:Int)==(s.size:Int))=false:=Xaj (by omega)
    have DG:Hid ((bs s).drop n=x::(bs s).drop (n+1)):=Hd (by rw[hx];exact Xqf (by rw[Xaa];exact b))
    have SN:=Hd (Xsz s f n x hfn b hx)
    clear hx
    by_cases e:x=c
    ·subst e
     have q1:((x:Int)==(x:Int))=true:=Xa4 rfl
     have EQ2:Hid (spl x (bs s)=(gs++[s.extract f n]).map bs++ahd (bs (s.extract (n+1) (n+1))) (spl x ((bs s).drop (n+1)))):=Hd (by
      rw[J.o.eq,DG.o,Ybx,List.map_append,List.append_assoc,Xm6];rfl)
     clear J hm DG SN
     go_wp2_with (at_builtin;refine wpList_append_own _ rfl _ _ 23 rfl w.heap.size 9 i0 (.string ⟨#[]⟩) 1 16 underlying23 hi0 hz0 hz1 hz2 rfl (by decide) _ _ _ rfl (RW.o.alloc _) ⟨wr.heap.size,0,none⟩ 1 1 [.string (s.extract f n)] rfl rfl (World.news_of_block (cs:=#[.string (s.extract f n)]) (t:=9) (fr:=(0,0)) (zN wr _)) (by simp[Value.oneCell']) (by unfold maxLen;omega) (by omega) (by simp;omega) ?_;intro v' w3 hown' hgrow _)
     have O3:Hid (w3.ownsRow w.heap.size 9 1 v' (gs++[s.extract f n]).length ((gs++[s.extract f n]).map Value.string)):=Hd (by rw[List.length_append,←HM.o,List.map_append];exact hown')
     have B3:Hid (Bw w w3):=Hd (Below.grown (BE.o.alloc BE.o.size _) hgrow (by simp;omega) (fun k hk=>(RW.o.lt k hk).1))
     have NL:Hid ((gs++[s.extract f n]).length≤n+1):=Hd (by rw[List.length_append,←HM.o];simp;omega)
     clear hown' hgrow
     go_wp2_with fail
     go_roundg (s.size+1-(n+1))
     case measure=>omega
     case rel=>exact⟨n+1,n+1,gs++[s.extract f n],by omega,by omega,rfl,by go_num,by go_num,Hd (.inl ⟨by omega,zL _,EQ2.o,O3.o,SZ.o,by rw[ByteArray.size_extract];omega,NL.o,B3.o⟩)⟩
    ·have q1:((x:Int)==(c:Int))=false:=Xaj (by omega)
     have JN:Hid (PaI s c w (n+1) u5 gs (s.extract f (n+1)) wr):=Hd ⟨by
      rw[J.o.eq,DG.o,Xu5 c x e,SN.o],J.o.row,J.o.siz,by rw[ByteArray.size_extract];omega,by have:=J.o.num;omega,J.o.bel⟩
     clear J e DG hm SN
     go_wp2_with fail
     go_roundg (s.size+1-(n+1))
     case measure=>omega
     case rel=>exact⟨n+1,f,gs,by omega,by omega,rfl,by go_num,rfl,Hd (.inl ⟨by omega,by omega,JN.o⟩)⟩
   ·obtain rfl:n=s.size:=by omega
    have q0:((s.size:Int)==(s.size:Int))=true:=Xa4 rfl
    have EQ2:Hid ((gs++[s.extract f s.size]).map bs=spl c (bs s)):=Hd (by
     rw[J.o.eq,List.drop_of_length_le (by rw[Xaa];exact zL _),Yby,List.map_append];rfl)
    clear J hm
    go_wp2_with (at_builtin;refine wpList_append_own _ rfl _ _ 23 rfl w.heap.size 9 i0 (.string ⟨#[]⟩) 1 16 underlying23 hi0 hz0 hz1 hz2 rfl (by decide) _ _ _ rfl (RW.o.alloc _) ⟨wr.heap.size,0,none⟩ 1 1 [.string (s.extract f s.size)] rfl rfl (World.news_of_block (cs:=#[.string (s.extract f s.size)]) (t:=9) (fr:=(0,0)) (zN wr _)) (by simp[Value.oneCell']) (by unfold maxLen;omega) (by omega) (by simp;omega) ?_;intro v' w3 hown' hgrow _)
    have O3:Hid (w3.ownsRow w.heap.size 9 1 v' (gs++[s.extract f s.size]).length ((gs++[s.extract f s.size]).map Value.string)):=Hd (by rw[List.length_append,←HM.o,List.map_append];exact hown')
    have B3:Hid (Bw w w3):=Hd (Below.grown (BE.o.alloc BE.o.size _) hgrow (by simp;omega) (fun k hk=>(RW.o.lt k hk).1))
    have NL:Hid ((gs++[s.extract f s.size]).length≤s.size+1):=Hd (by rw[List.length_append,←HM.o];simp;omega)
    clear hown' hgrow
    go_wp2_with fail
    go_roundg (s.size+1-(s.size+1))
    case measure=>omega
    case rel=>exact⟨s.size+1,s.size+1,[],by omega,by omega,rfl,by go_num,by go_num,Hd (.inr ⟨rfl,PaI.post EQ2.o O3.o SZ.o NL.o B3.o⟩)⟩
  ·have J:=Hd J1
   clear J0 J1
   go_wp2_with fail
   go_ret
   exact J.o
theorem SRow.at {w:World}{v:Value}{gs:List ByteArray}(h:SRow w v gs)(j:Nat)(hj:j<gs.length):∃b off cap,v=.slice (some ⟨b,off,none⟩) gs.length cap∧gs.length≤cap∧b<w.heap.size∧w.cell? ⟨b,off+j,none⟩=some (.string gs[j]):=by
 obtain⟨a,cap,h1,h2,h3⟩:=h
 obtain⟨b,off,rfl,h5,h6⟩:=h3 (fun e=>by rw[e] at hj;simp at hj)
 exact⟨b,off,cap,h1,h2,h5,h6 j hj⟩
def ncB (p:List Nat):Bool:=!Xeq p
theorem Yfg {p:List Nat→Bool}{l:List (List Nat)}{k:Nat}{c:List Nat}(hk:k<l.length)(hc:c=l[k])(h:p c=true):l.any p=true:=by
 rw[List.any_eq_true];exact⟨l[k],zG hk,by rw[←hc];exact h⟩
theorem Ybt {p:List Nat→Bool}{l:List (List Nat)}{k:Nat}{c:List Nat}(h0:(l.take k).any p=false)(hk:k<l.length)(hc:c=l[k])(h:p c=false):(l.take (k+1)).any p=false:=by
 rw[List.take_succ_eq_append_getElem hk,List.any_append,h0,←hc];simp[h]
theorem Xkm (s:ByteArray)(w:World)(hs:s.size≤10000000):
    zJ 118 #[.string s] w (.int .i64 (Xbf (bs s):Nat)):=by
 obtain⟨T,hT⟩:=xq (Xbf (bs s))
 rw[←hT]
 have TF:Hid (T=if 80<s.size then 5 else if(spl 46 (bs s)).any ncB=true then 12 else if 10<(spl 46 (bs s)).length then 9 else 0):=Hd (by rw[hT];unfold Xbf;rw[Xaa];rfl)
 clear hT
 by_cases hl:80<s.size
 ·have T5:Hid (T=5):=Hd (by rw[TF.o,qP hl])
  go_enter func118,ntmps118
  go_wp2_with fail
  go_ret
  exact⟨by rw[T5.o];rfl,zR _ _⟩
 have TG:Hid (T=if(spl 46 (bs s)).any ncB=true then 12 else if 10<(spl 46 (bs s)).length then 9 else 0):=Hd (by rw[TF.o,qN hl])
 have P:=Hd (Xvq s 46 w hs (by omega))
 obtain⟨L,hL⟩:=xq (spl 46 (bs s))
 rw[←hL] at TG
 have HL:=Hd hL
 clear TF hL
 go_enter func118,ntmps118
 go_wp2_with fail
 refine P.o.mono ?_
 rintro e w1 ⟨v,gs,rfl,h1,h2,h3,h4,h5,hb⟩
 have hLg:L=gs.map bs:=by rw[HL.o,h1]
 have HLG:=Hd hLg
 have R1:=Hd h2;have B1:=Hd hb;have SZ:=Hd h3
 obtain⟨m,hm⟩:=xq gs.length
 have HM:=Hd hm
 have HML:Hid (L.length=m):=Hd (by rw[hLg,List.length_map,hm])
 have hms:m≤s.size+1:=by rw[hm];exact h4
 clear P h1 h2 h3 h4 h5 hb hLg
 obtain⟨ba,cap,rfl,hc,_⟩:=R1.o
 rw[←hm] at hc⊢
 clear hm
 go_wp2_with fail
 go_loopg [4] m (fun k i wr=>∃n:Nat,n≤m∧k=m-n∧i=.int .i64 (n:Int)∧Hid ((L.take n).any ncB=false)∧Hid (Bw w1 wr))
 case atStart=>exact⟨0,by omega,rfl,rfl,Hd rfl,Hd (zR _ _)⟩
 case round=>
  obtain⟨n,hn,rfl,rfl,hg,hd⟩:=hrel
  by_cases b:n<m
  ·have hnl:n<gs.length:=by rw[←HM.o];exact b
   have hnL:n<L.length:=by rw[HML.o];exact b
   obtain⟨b0,off,cap',e0,_,hb0,hcell⟩:=R1.o.at n hnl
   cases e0
   obtain⟨g,hg2⟩:=xq (gs[n])
   have hgs:g.size≤s.size:=by rw[hg2];exact SZ.o _ (zG hnl)
   have LG:bs g=L[n]:=by rw[hg2];simp[HLG.o]
   rw[←hg2] at hcell
   have hcc:wr.cell? ⟨b0,off+n,none⟩=some (.string g):=(hd.o.cell (p:=⟨b0,off+n,none⟩) hb0).trans hcell
   have C:=Hd (Xyv g wr (by unfold maxLen;omega))
   obtain⟨c,hcx⟩:=xq (Xeq (bs g))
   rw[←hcx] at C
   have YES:Hid (c=true→(L.take (n+1)).any ncB=false):=Hd (fun h=>Ybt hg.o hnL LG (by unfold ncB;rw[←hcx,h];rfl))
   have NO:Hid (c=false→L.any ncB=true):=Hd (fun h=>Yfg hnL LG (by unfold ncB;rw[←hcx,h];rfl))
   clear hcell hg2 LG hcx hg hnl hnL hb0 hgs
   cases c
   ·have T12:Hid (T=12):=Hd (by rw[TG.o,qP (NO.o rfl)])
    clear YES NO
    go_wp2_with fail
    refine C.o.mono ?_
    rintro e w2 ⟨rfl,hd2⟩
    have B2:=Hd (B1.o.trans ((hd.o.trans ((Dr.below hd2).mono hd.o.size)).mono B1.o.size))
    clear hd2 C
    go_wp2_with fail
    go_ret
    exact⟨by rw[T12.o];rfl,B2.o⟩
   ·have G:=Hd (YES.o rfl)
    clear YES NO
    go_wp2_with fail
    refine C.o.mono ?_
    rintro e w2 ⟨rfl,hd2⟩
    have B2:=Hd (hd.o.trans ((Dr.below hd2).mono hd.o.size))
    clear hd2 C
    go_wp2_with fail
    go_roundg (m-(n+1))
    case measure=>omega
    case rel=>exact⟨n+1,by omega,rfl,by go_num,G,B2⟩
  ·have AF:Hid (L.any ncB=false):=Hd (by have h:=hg.o;rwa [List.take_of_length_le (by rw[HML.o];omega)] at h)
   have BW:=Hd (bg B1.o hd.o)
   clear hg
   by_cases h10:10<m
   ·have T9:Hid (T=9):=Hd (by rw[TG.o,AF.o,qN (by simp),qP (by rw[HML.o];exact h10)])
    go_wp2_with fail
    go_ret
    exact⟨by rw[T9.o];rfl,BW.o⟩
   ·have T0:Hid (T=0):=Hd (by rw[TG.o,AF.o,qN (by simp),qN (by rw[HML.o];exact h10)])
    go_wp2_with fail
    go_ret
    exact⟨by rw[T0.o];rfl,BW.o⟩
theorem Xvt (w:World)(v:Value)(gs:List ByteArray)(hr:SRow w v gs)(hl:gs.length≤1000000)(hz:∀g∈gs,g.size≤1000000):
    zJ 70 #[v] w (.int .i64 (Xcd Xbf (gs.map bs):Nat)):=by
 obtain⟨T,hT⟩:=xq (Xcd Xbf (gs.map bs))
 rw[←hT]
 obtain⟨m,hm⟩:=xq gs.length
 have HM:=Hd hm
 have R1:=Hd hr;have SZ:=Hd hz
 have TF:Hid (T=if 20<m then 9 else Xc9 Xbf 7 ((gs.map bs).take 0) ((gs.map bs).drop 0)):=Hd (by rw[hT,hm];unfold Xcd;rw[List.length_map];rfl)
 obtain⟨ba,cap,rfl,hc,_⟩:=hr
 rw[←hm] at hc hl⊢
 clear hT hm hz
 by_cases h20:20<m
 ·have T9:Hid (T=9):=Hd (by rw[TF.o,qP h20])
  go_enter func70,ntmps70
  go_wp2_with fail
  go_ret
  exact⟨by rw[T9.o];rfl,zR _ _⟩
 have TG:Hid (T=Xc9 Xbf 7 ((gs.map bs).take 0) ((gs.map bs).drop 0)):=Hd (by rw[TF.o,qN h20])
 clear TF
 go_enter func70,ntmps70
 go_wp2_with fail
 go_loopg [3,4,5] m (fun k i _ _ wr=>∃n:Nat,n≤m∧k=m-n∧i=.int .i64 (n:Int)∧Hid (T=Xc9 Xbf 7 ((gs.map bs).take n) ((gs.map bs).drop n))∧Hid (Bw w wr))
 case atStart=>exact⟨0,by omega,rfl,rfl,TG,Hd (zR _ _)⟩
 case round=>
  clear TG
  obtain⟨n,hn,rfl,rfl,hg,hd⟩:=hrel
  by_cases b:n<m
  ·have hnl:n<gs.length:=by rw[←HM.o];exact b
   have ST:=Xiq Xbf 7 (gs.map bs) n (by rw[List.length_map];exact hnl)
   obtain⟨b0,off,cap',e0,_,hb0,hcell⟩:=R1.o.at n hnl
   cases e0
   obtain⟨g,hg2⟩:=xq (gs[n])
   have LG:(gs.map bs)[n]'(by rw[List.length_map];exact hnl)=bs g:=by rw[hg2];simp
   rw[←hg2] at hcell
   rw[LG,←hg.o] at ST
   have hcc:wr.cell? ⟨b0,off+n,none⟩=some (.string g):=(hd.o.cell (p:=⟨b0,off+n,none⟩) hb0).trans hcell
   have hgz:g.size≤1000000:=by rw[hg2];exact SZ.o _ (zG hnl)
   have C:=Hd (Xkm g wr (by omega))
   obtain⟨c,hcx⟩:=xq (Xbf (bs g))
   rw[←hcx] at C ST
   have STH:=Hd ST
   have CELL:=Hd hcell
   clear hcell hg2 LG hcx hg hnl hgz ST
   by_cases c0:c=0
   ·have q1:((c:Int) !=0)=false:=Xau (by omega)
    have ST2:Hid (T=if bs g∈(gs.map bs).take n then 7 else Xc9 Xbf 7 ((gs.map bs).take (n+1)) ((gs.map bs).drop (n+1))):=Hd (by rw[STH.o,qN (fun h=>h c0)])
    clear STH c0
    go_wp2_with fail
    refine C.o.mono ?_
    rintro e w2 ⟨rfl,hb2⟩
    have B2:=bh hd hb2
    clear hb2 C hcc
    go_wp2_with fail
    go_loopg [5] n (fun k i wr=>∃q:Nat,q≤n∧k=n-q∧i=.int .i64 (q:Int)∧Hid (bs g∉(gs.map bs).take q)∧Hid (Dr w2 wr))
    case atStart=>exact⟨0,by omega,rfl,rfl,Hd (by simp),Hd (Dr.refl _)⟩
    case round=>
     obtain⟨q,hq,rfl,rfl,hno,hd3⟩:=hrel
     by_cases b2:q<n
     ·have hql:q<gs.length:=by rw[←HM.o];omega
      have hqm:q<m:=by omega
      obtain⟨b1,off1,cap1,e1,_,hb1,hcell1⟩:=R1.o.at q hql
      cases e1
      obtain⟨h,hh⟩:=xq (gs[q])
      rw[←hh] at hcell1
      have BB:Bw w wr:=B2.o.trans ((Dr.below hd3.o).mono B2.o.size)
      have k1:wr.cell? ⟨b0,off+q,none⟩=some (.string h):=(BB.cell (p:=⟨b0,off+q,none⟩) hb0).trans hcell1
      have k2:wr.cell? ⟨b0,off+n,none⟩=some (.string g):=(BB.cell (p:=⟨b0,off+n,none⟩) hb0).trans CELL.o
      have hTK:(gs.map bs).take (q+1)=(gs.map bs).take q++[bs h]:=by
       rw[List.take_succ_eq_append_getElem (by rw[List.length_map];exact hql),hh];simp
      have TK:=Hd hTK
      by_cases e:h=g
      ·have e1:=toList_eq e
       have T7:Hid (T=7):=Hd (by
        rw[ST2.o,qP]
        have:(gs.map bs).take (q+1)<+:(gs.map bs).take n:=List.take_prefix_take_left (by omega)
        exact this.subset (by rw[hTK,e];simp))
       have BF:=Hd BB
       have k1d:wr.drew.cell? ⟨b0,off+q,none⟩=some (.string h):=k1
       have k2d:wr.drew.cell? ⟨b0,off+n,none⟩=some (.string g):=k2
       clear e hTK hh BB hcell1
       go_upto_region 12 with fail
       refine wp_region_still_lit (by kernel_rfl) (by kernel_rfl) ?_
       repeat still_step
       refine wpStill_nil ?_
       go_wp2_with fail
       go_ret
       exact⟨by rw[T7.o];rfl,by(first|exact BF.o|exact BF.o.drew)⟩
      ·have e1:=Xxx e
       have k1d:wr.drew.cell? ⟨b0,off+q,none⟩=some (.string h):=k1
       have k2d:wr.drew.cell? ⟨b0,off+n,none⟩=some (.string g):=k2
       have N2:Hid (bs g∉(gs.map bs).take (q+1)):=Hd (by
        rw[hTK]
        intro hm
        rcases List.mem_append.1 hm with hm|hm
        ·exact hno.o hm
        ·simp at hm
         exact e (by rw[←Xd3 h,←Xd3 g,hm]))
       clear e hTK hh BB hcell1
       go_upto_region 12 with fail
       refine wp_region_still_lit (by kernel_rfl) (by kernel_rfl) ?_
       repeat still_step
       refine wpStill_nil ?_
       go_wp2_with fail
       go_roundg (n-(q+1))
       case measure=>omega
       case rel=>exact⟨q+1,by omega,rfl,by go_num,N2,by(first|exact hd3|exact Hd hd3.o.drew|exact Hd (hd3.o.drewN 1))⟩
     ·obtain rfl:q=n:=by omega
      have NX:Hid (T=Xc9 Xbf 7 ((gs.map bs).take (q+1)) ((gs.map bs).drop (q+1))):=Hd (by rw[ST2.o,qN hno.o])
      have BF:Hid (Bw w wr):=Hd (B2.o.trans ((Dr.below hd3.o).mono B2.o.size))
      go_wp2_with fail
      go_roundg (m-(q+1))
      case measure=>omega
      case rel=>exact⟨q+1,by omega,rfl,by go_num,NX,by(first|exact BF|exact Hd BF.o.drew)⟩
   ·have q1:((c:Int) !=0)=true:=Xam (by omega)
    have TC:Hid (T=c):=Hd (by rw[STH.o,qP c0])
    clear STH c0
    go_wp2_with fail
    refine C.o.mono ?_
    rintro e w2 ⟨rfl,hb2⟩
    have B2:=bh hd hb2
    clear hb2 C hcc
    go_wp2_with fail
    go_ret
    exact⟨by rw[TC.o];rfl,B2.o⟩
  ·have T0:Hid (T=0):=Hd (by rw[hg.o,List.drop_of_length_le (by rw[List.length_map,←HM.o];omega)];rfl)
   clear hg
   go_wp2_with fail
   go_ret
   exact⟨by rw[T0.o];rfl,hd.o⟩
theorem Xvw (w:World)(c:Nat)(hc:c<256):Rx 222 #[.int .u8 (c:Int)] w (.int .i64 (hvz c)):=by
 obtain⟨r,hr⟩:=xq (hvz c)
 rw[←hr]
 rcases(by omega:c<48∨(48≤c∧c≤57)∨(57<c∧c<97)∨(97≤c∧c≤102)∨102<c) with h|⟨h,h2⟩|⟨h,h2⟩|⟨h,h2⟩|h
 ·have R:Hid (r=-1):=Hd (by rw[hr];unfold hvz hvl;rw[qN (by omega),qN (by omega)])
  clear hr
  go_enter func222,ntmps222
  go_wp2_with fail
  go_ret
  exact⟨by rw[R.o];rfl,rfl⟩
 ·have R:Hid (r=(c:Int)-48):=Hd (by rw[hr];unfold hvz hvl;rw[qP ⟨h,h2⟩];simp;omega)
  have cv:IntKind.u8.wrap ((c:Int)-48)=(c:Int)-48:=by rw[IntKind.wrap_u8];omega
  clear hr
  go_enter func222,ntmps222
  go_wp2_with fail
  go_ret
  exact⟨by rw[R.o];rfl,rfl⟩
 ·have R:Hid (r=-1):=Hd (by rw[hr];unfold hvz hvl;rw[qN (by omega),qN (by omega)])
  clear hr
  go_enter func222,ntmps222
  go_wp2_with fail
  go_ret
  exact⟨by rw[R.o];rfl,rfl⟩
 ·have R:Hid (r=(c:Int)-97+10):=Hd (by rw[hr];unfold hvz hvl;rw[qN (by omega),qP ⟨h,h2⟩];simp;omega)
  have cv:IntKind.u8.wrap ((c:Int)-97)=(c:Int)-97:=by rw[IntKind.wrap_u8];omega
  clear hr
  go_enter func222,ntmps222
  go_wp2_with fail
  go_ret
  exact⟨by rw[R.o];rfl,rfl⟩
 ·have R:Hid (r=-1):=Hd (by rw[hr];unfold hvz hvl;rw[qN (by omega),qN (by omega)])
  clear hr
  go_enter func222,ntmps222
  go_wp2_with fail
  go_ret
  exact⟨by rw[R.o];rfl,rfl⟩
theorem Xvx (w:World)(c:Nat)(hc:c<256):Rx 221 #[.int .u8 (c:Int)] w (.int .i64 (hvz c)):=by
 obtain⟨r,hr⟩:=xq (hvz c)
 rw[←hr]
 rcases(by omega:c<48∨(48≤c∧c≤57)∨(57<c∧c<97)∨(97≤c∧c≤102)∨102<c) with h|⟨h,h2⟩|⟨h,h2⟩|⟨h,h2⟩|h
 ·have R:Hid (r=-1):=Hd (by rw[hr];unfold hvz hvl;rw[qN (by omega),qN (by omega)])
  clear hr
  go_enter func221,ntmps221
  go_wp2_with fail
  go_ret
  exact⟨by rw[R.o];rfl,rfl⟩
 ·have R:Hid (r=(c:Int)-48):=Hd (by rw[hr];unfold hvz hvl;rw[qP ⟨h,h2⟩];simp;omega)
  clear hr
  go_enter func221,ntmps221
  go_wp2_with fail
  go_ret
  exact⟨by rw[R.o];rfl,rfl⟩
 ·have R:Hid (r=-1):=Hd (by rw[hr];unfold hvz hvl;rw[qN (by omega),qN (by omega)])
  clear hr
  go_enter func221,ntmps221
  go_wp2_with fail
  go_ret
  exact⟨by rw[R.o];rfl,rfl⟩
 ·have R:Hid (r=(c:Int)-97+10):=Hd (by rw[hr];unfold hvz hvl;rw[qN (by omega),qP ⟨h,h2⟩];simp;omega)
  clear hr
  go_enter func221,ntmps221
  go_wp2_with fail
  go_ret
  exact⟨by rw[R.o];rfl,rfl⟩
 ·have R:Hid (r=-1):=Hd (by rw[hr];unfold hvz hvl;rw[qN (by omega),qN (by omega)])
  clear hr
  go_enter func221,ntmps221
  go_wp2_with fail
  go_ret
  exact⟨by rw[R.o];rfl,rfl⟩
theorem Xz8 {l:List Nat}(h:0<l.length):l.head?=some (l.getD 0 0):=by
 rw[List.head?_eq_getElem?,List.getElem?_eq_getElem h];simp[List.getD,h]
theorem Xzo {l:List Nat}(h:0<l.length):l.getLast?=some (l.getD (l.length-1) 0):=by
 have h1:l.length-1<l.length:=by omega
 rw[List.getLast?_eq_getElem?,List.getElem?_eq_getElem h1,List.getD_eq_getElem?_getD,List.getElem?_eq_getElem h1];rfl
theorem Xvm (s:ByteArray)(w:World)(hs:s.size≤maxLen):
    Rz 123 #[.string s] w (.int .i64 (Xnf (bs s):Nat)):=by
 unfold maxLen at hs
 obtain⟨T,hT⟩:=xq (Xnf (bs s))
 rw[←hT]
 have TF:Hid (T=if 200<s.size then 5 else if(bs s).all prC=false then 6 else if(bs s).head?=some 32∨(bs s).getLast?=some 32 then 3 else 0):=Hd (by rw[hT];unfold Xnf;rw[Xaa])
 clear hT
 by_cases hl:200<s.size
 ·have T5:Hid (T=5):=Hd (by rw[TF.o,qP hl])
  go_enter func123,ntmps123
  go_wp2_with fail
  go_ret
  exact⟨by rw[T5.o];rfl,Dr.refl _⟩
 have TG:Hid (T=if(bs s).all prC=false then 6 else if(bs s).head?=some 32∨(bs s).getLast?=some 32 then 3 else 0):=Hd (by rw[TF.o,qN hl])
 clear TF
 go_enter func123,ntmps123
 go_wp2_with fail
 go_loopg [3] s.size (fun k i wr=>∃n:Nat,n≤s.size∧k=s.size-n∧i=.int .i64 (n:Int)∧Hid (((bs s).take n).all prC=true)∧Hid (Dr w wr))
 case atStart=>exact⟨0,by omega,rfl,rfl,Hd rfl,Hd (Dr.refl _)⟩
 case round=>
  obtain⟨n,hn,rfl,rfl,hv,hd⟩:=hrel
  by_cases b:n<s.size
  ·obtain⟨x,hx⟩:=xq ((bs s).getD n 0)
   have hx2:x<256:=by rw[hx];exact Xba s n
   have y1:=fun w=>Xhc s w n n rfl b x hx
   have NX:Hid (prC x=true→((bs s).take (n+1)).all prC=true):=Hd (fun h=>Xb3 hv.o (by rw[Xaa];exact b) hx h)
   have NO:Hid (prC x=false→(bs s).all prC=false):=Hd (fun h=>Xdp (by rw[Xaa];exact b) hx h)
   clear hx hv
   rcases(by omega:x<32∨(32≤x∧x≤126)∨126<x) with h|⟨h,h2⟩|h
   ·have T6:Hid (T=6):=Hd (by rw[TG.o,qP (NO.o (by unfold prC;rw[zW (by omega)];rfl))])
    clear NX NO
    go_wp2_with fail
    go_ret
    exact⟨by rw[T6.o];rfl,by(first|exact hd.o|exact hd.o.drewN _)⟩
   ·have F:=Hd (NX.o (by unfold prC;rw[zT h,zT h2];rfl))
    clear NX NO
    go_wp2_with fail
    go_roundg (s.size-(n+1))
    case measure=>omega
    case rel=>exact⟨n+1,by omega,rfl,by go_num,F,by(first|exact hd|exact Hd (hd.o.drewN _))⟩
   ·have T6:Hid (T=6):=Hd (by rw[TG.o,qP (NO.o (by unfold prC;rw[zW (show¬x≤126 by omega)];simp))])
    clear NX NO
    go_wp2_with fail
    go_ret
    exact⟨by rw[T6.o];rfl,by(first|exact hd.o|exact hd.o.drewN _)⟩
  ·have AL:(bs s).all prC=true:=by have h:=hv.o;rwa [List.take_of_length_le (by rw[Xaa];omega)] at h
   have TH:Hid (T=if(bs s).head?=some 32∨(bs s).getLast?=some 32 then 3 else 0):=Hd (by rw[TG.o,AL];rfl)
   clear AL hv TG
   by_cases h0:s.size=0
   ·have T0:Hid (T=0):=Hd (by rw[TH.o,Xuz h0];rfl)
    obtain rfl:=Xeh h0
    clear h0 TH
    go_wp2_with fail
    go_ret
    exact⟨by rw[T0.o];rfl,by(first|exact hd.o|exact hd.o.drewN _)⟩
   obtain⟨x,hx⟩:=xq ((bs s).getD 0 0)
   obtain⟨y,hy⟩:=xq ((bs s).getD (s.size-1) 0)
   have hx2:x<256:=by rw[hx];exact Xba s 0
   have hy2:y<256:=by rw[hy];exact Xba s _
   have x1:=fun w=>Yb9 s x hx (by omega) w
   have y1:=fun w=>Xhc s w ((s.size:Int)-1) (s.size-1) (by omega) (by omega) y hy
   have sne:=Xd2 h0
   have TI:Hid (T=if x=32∨y=32 then 3 else 0):=Hd (by
    rw[TH.o,Xz8 (by rw[Xaa];omega),Xzo (by rw[Xaa];omega),Xaa,←hx,←hy];simp)
   clear hx hy TH
   by_cases e1:x=32
   ·have q1:((x:Int)==32)=true:=Xa4 (by omega)
    have T3:Hid (T=3):=Hd (by rw[TI.o,qP (.inl e1)])
    clear e1
    go_wp2_with fail
    go_ret
    exact⟨by rw[T3.o];rfl,by(first|exact hd.o|exact hd.o.drewN _)⟩
   by_cases e2:y=32
   ·have q1:((x:Int)==32)=false:=Xaj (by omega)
    have q2:((y:Int)==32)=true:=Xa4 (by omega)
    have T3:Hid (T=3):=Hd (by rw[TI.o,qP (.inr e2)])
    clear e1 e2
    go_wp2_with fail
    go_ret
    exact⟨by rw[T3.o];rfl,by(first|exact hd.o|exact hd.o.drewN _)⟩
   ·have q1:((x:Int)==32)=false:=Xaj (by omega)
    have q2:((y:Int)==32)=false:=Xaj (by omega)
    have T3:Hid (T=0):=Hd (by rw[TI.o,qN (fun h=>h.elim e1 e2)])
    clear e1 e2
    go_wp2_with fail
    go_ret
    exact⟨by rw[T3.o];rfl,by(first|exact hd.o|exact hd.o.drewN _)⟩
def nvl (l:List Nat):Nat:=l.foldl (fun n c=>10*n+(c-48)) 0
theorem Xuc (l:List Nat)(c:Nat):nvl (l++[c])=10*nvl l+(c-48):=by unfold nvl;rw[List.foldl_append];rfl
theorem Ykd:∀(k:Nat) (l:List Nat),l.length=k→l.all dig=true→nvl l<10^k:=by
 intro k
 induction k with
 |zero=>intro l h _;obtain rfl:=List.length_eq_zero_iff.1 h;decide
 |succ k ih=>
  intro l h hd
  have hne:l≠[]:=by intro e;rw[e] at h;simp at h
  have hc:=List.dropLast_concat_getLast hne
  rw[←hc] at hd⊢
  rw[List.all_append,Bool.and_eq_true] at hd
  have:=ih l.dropLast (by rw[List.length_dropLast,h];rfl) hd.1
  have h2:dig (l.getLast hne)=true:=by simpa using hd.2
  unfold dig at h2
  simp at h2
  rw[Xuc,Nat.pow_succ]
  omega
theorem Yke {l:List Nat}(h:l.length≤7)(hd:l.all dig=true):nvl l<10000000:=
 Nat.lt_of_lt_of_le (Ykd _ l rfl hd) (Nat.pow_le_pow_right (by decide:0<10) h)
theorem Ydt {l:List Nat}{k c:Nat}(hk:k<l.length)(hc:c=l.getD k 0):nvl (l.take (k+1))=10*nvl (l.take k)+(c-48):=by
 rw[List.take_succ_eq_append_getElem hk,Xuc]
 have:l[k]=c:=by rw[hc];simp[List.getD,hk]
 rw[this]
def Yf6 (l:List Nat):Int:=match Xlx l with|none=>-1|some n=>(n:Int)
theorem Xml (s:ByteArray)(w:World)(hs:s.size≤maxLen):
    Rz 169 #[.string s] w (.int .i64 (Yf6 (bs s))):=by
 unfold maxLen at hs
 obtain⟨T,hT⟩:=xq (Yf6 (bs s))
 rw[←hT]
 have TN:Hid (bs s=[]∨7<s.size∨(1<s.size∧(bs s).getD 0 0=48)∨(bs s).all dig=false→T=-1):=Hd (fun h=>by rw[hT];unfold Yf6 Xlx;rw[Xaa,qP h])
 have TS:Hid (¬(bs s=[]∨7<s.size∨(1<s.size∧(bs s).getD 0 0=48)∨(bs s).all dig=false)→T=(nvl (bs s):Int)):=Hd (fun h=>by rw[hT];unfold Yf6 Xlx;rw[Xaa,qN h];rfl)
 clear hT
 by_cases h0:s.size=0
 ·have F:=Hd (TN.o (.inl (Xuz h0)))
  obtain rfl:=Xeh h0
  clear h0 TN TS
  go_enter func169,ntmps169
  go_wp2_with fail
  go_ret
  exact⟨by rw[F.o];rfl,Dr.refl _⟩
 have NE:Hid (bs s≠[]):=Hd (fun e=>h0 (by rw[←Xaa,e];rfl))
 have sne:=Xd2 h0
 by_cases h7:7<s.size
 ·have F:=Hd (TN.o (.inr (.inl h7)))
  clear TN TS
  go_enter func169,ntmps169
  go_wp2_with fail
  go_ret
  exact⟨by rw[F.o];rfl,Dr.refl _⟩
 obtain⟨c,hc⟩:=xq ((bs s).getD 0 0)
 have hc2:c<256:=by rw[hc];exact Xba s 0
 have x0:=Yb9 s c hc (by omega)
 have HC:=Hd hc
 clear hc
 by_cases hz:1<s.size∧c=48
 ·obtain⟨hz1,hz2⟩:=hz
  have F:=Hd (TN.o (.inr (.inr (.inl ⟨hz1,by rw[←HC.o];exact hz2⟩))))
  have q1:((c:Int)==48)=true:=Xa4 (by omega)
  clear TN TS hz2
  go_enter func169,ntmps169
  go_wp2_with fail
  go_ret
  exact⟨by rw[F.o];rfl,Dr.refl _⟩
 have TT:Hid ((bs s).all dig=true→T=(nvl (bs s):Int)):=Hd (fun h=>TS.o (by
  rintro(h|h|h|h)
  ·exact NE.o h
  ·exact h7 h
  ·exact hz ⟨h.1,by rw[HC.o];exact h.2⟩
  ·rename_i hh;rw[hh] at h;cases h))
 have TB:Hid ((bs s).all dig=false→T=-1):=Hd (fun h=>TN.o (.inr (.inr (.inr h))))
 have Z:Hid (c=48→¬1<s.size):=Hd (fun e h=>hz ⟨h,e⟩)
 clear TN TS NE HC hz
 have h1:c=48→s.size=1:=fun e=>by have:=Z.o e;omega
 have CASE:(((c:Int)==48)=true∧s.size=1)∨((c:Int)==48)=false:=by
  by_cases e48:c=48
  ·exact .inl ⟨Xa4 (by omega),h1 e48⟩
  ·exact .inr (Xaj (by omega))
 clear Z h1
 rcases CASE with⟨q1,h1⟩|q1
 all_goals
  go_enter func169,ntmps169
  go_wp2_with fail
  clear q1 x0
  go_loopg [3,4] s.size (fun k u i wr=>∃(n:Nat) (v:Nat),n≤s.size∧k=s.size-n∧i=.int .i64 (n:Int)∧u=.int .i64 (v:Int)∧v<10000000∧Hid (nvl ((bs s).take n)=v)∧Hid (((bs s).take n).all dig=true)∧Hid (Dr w wr))
  case atStart=>exact⟨0,0,by omega,by omega,rfl,rfl,by omega,Hd rfl,Hd rfl,Hd (Dr.refl _)⟩
  case round=>
   obtain⟨n,v,hn,rfl,rfl,rfl,hv7,hv,ha,hd⟩:=hrel
   by_cases b:n<s.size
   ·obtain⟨x,hx⟩:=xq ((bs s).getD n 0)
    have hx2:x<256:=by rw[hx];exact Xba s n
    have y1:=fun w=>Xhc s w n n rfl b x hx
    have NX:Hid (dig x=true→((bs s).take (n+1)).all dig=true∧nvl ((bs s).take (n+1))=10*v+(x-48)∧10*v+(x-48)<10000000):=Hd (fun h=>by
     have a1:=Xb3 ha.o (by rw[Xaa];exact b) hx h
     have a2:=Ydt (l:=bs s) (k:=n) (by rw[Xaa];exact b) hx
     rw[hv.o] at a2
     have a3:=Yke (l:=(bs s).take (n+1)) (by rw[List.length_take,Xaa];omega) a1
     exact⟨a1,a2,by rw[←a2];exact a3⟩)
    have NO:Hid (dig x=false→(bs s).all dig=false):=Hd (fun h=>Xdp (by rw[Xaa];exact b) hx h)
    clear hx hv ha
    rcases(by omega:x<48∨(48≤x∧x≤57)∨57<x) with h|⟨h,h2⟩|h
    ·have F:=Hd (TB.o (NO.o (by unfold dig;rw[zW (by omega)];rfl)))
     clear NX NO TB TT
     go_wp2_with fail
     go_ret
     exact⟨by rw[F.o];rfl,by(first|exact hd.o|exact hd.o.drewN _)⟩
    ·obtain⟨a1,a2,a3⟩:=NX.o (by unfold dig;rw[zT h,zT h2];rfl)
     have A1:=Hd a1;have A2:=Hd a2
     have cv:IntKind.u8.wrap ((x:Int)-48)=(x:Int)-48:=by rw[IntKind.wrap_u8];omega
     clear NX NO a1 a2
     go_wp2_with fail
     go_roundg (s.size-(n+1))
     case measure=>omega
     case rel=>exact⟨n+1,10*v+(x-48),by omega,by omega,by go_num,by go_num,a3,A2,A1,by(first|exact hd|exact Hd (hd.o.drewN _))⟩
    ·have F:=Hd (TB.o (NO.o (by unfold dig;rw[zW (show¬x≤57 by omega)];simp)))
     clear NX NO TB TT
     go_wp2_with fail
     go_ret
     exact⟨by rw[F.o];rfl,by(first|exact hd.o|exact hd.o.drewN _)⟩
   ·have AL:(bs s).all dig=true:=by have h:=ha.o;rwa [List.take_of_length_le (by rw[Xaa];omega)] at h
    have VL:nvl (bs s)=v:=by have h:=hv.o;rwa [List.take_of_length_le (by rw[Xaa];omega)] at h
    have F:Hid (T=(v:Int)):=Hd (by rw[TT.o AL,VL])
    clear AL VL hv ha TT TB
    go_wp2_with fail
    go_ret
    exact⟨by rw[F.o];rfl,by(first|exact hd.o|exact hd.o.drewN _)⟩
end Go.Proofs.YtjolcnopipbkhaaGreatDoor
