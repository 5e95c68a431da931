/- control.AuthorText. -/
import Derived.Test.YtohmdledkhgdaaaGreatDoorPa07
namespace Go.Proofs.YtohmdledkhgdaaaGreatDoor
open Go.RowKit
set_option linter.unusedVariables false
set_option maxRecDepth 100000
theorem Xuq {l:List Nat} (hl:l.length=16) (j:Nat) (hj:j<16) (c:Nat) (hc:c=l.getD j 0) (w:World):(Instr.index 33 (.agg (idA l)) (.int .i64 (j:Int))).run Tryz.prog w=.ok (.int .u8 (c:Int)) w:=by
 have hi:(0:Int)≤(j:Int)∧(j:Int)<16:=by omega
 have hjl:j<l.length:=by omega
 have e:(idA l)[j]?=some (U c):=by
  rw[hc];unfold idA
  simp[List.getD,hjl]
 simp[Instr.index,run_underlying Tryz.underlying33,asIntOf,hi,go_sem]
 rw[if_pos hj,e]
 rfl
theorem Xjg:(Tryz.prog.info? 33).map (·.size)=some 16:=by kernel_rfl
theorem Xjy (w:World) (g off:Nat) (t:TypeId) (cs:Array Value) (fr:Nat×Nat) {l:List Nat} (h:l.length=16) (hg:w.heap[g]?=some (.cells cs t fr)) (hp:∀j u,(idA l)[j]?=some u→cs[off+j]?=some u):
    (loadVar 33 ⟨g,off,none⟩).run Tryz.prog w=.ok (.agg (idA l)) w:=
 Xey w g off t 33 cs (idA l) fr _ hg Tryz.underlying33 rfl (by rw[Xag,h];exact Xjg) hp
set_option maxHeartbeats 2000000 in
theorem Xvh (w:World) {l:List Nat} (hl:B16 l):
    Calls Tryz.prog 55 #[.agg (idA l)] w fun e w'=>e=.returned (.string (Xaq (Xbz l)))∧Below w.heap.size w w':=by
 obtain⟨i0,hi0,hz0,hz1,hz2⟩:=info_parts Xio
 obtain⟨p,hp⟩:∃p,p=w.heap.size:=⟨_,rfl⟩
 obtain⟨cs,hcs⟩:∃cs,cs=idA l:=⟨_,rfl⟩
 have HL:=Hd hl;have HP:=Hd hp;have HCS:=Hd hcs
 have LD:=Hd (Xjy (w.alloc (.cells (idA l) 33)) w.heap.size 0 _ _ _ hl.len (heap_alloc_last w _) (Xgt l))
 rw[←hcs] at LD⊢
 have B0:Hid (Below w.heap.size w (w.alloc (.cells cs 33))):=Hd ((Below.refl _ _).alloc (Nat.le_refl _) _)
 clear hl hcs
 go_enter Tryz.func55,Tryz.ntmps55
 go_upto_region 2 with(at_make;refine Xb8 _ rfl _ _ _ rfl 5 i0 _ 1 Tryz.underlying62 hi0 hz0 hz1 .i64 .i64 _ _ 0 32 rfl rfl rfl (by omega) (by omega) (by rw[hz2];omega) (by unfold maxLen;omega) ?_;intro ks hks)
 have a1:=World.ownsRow_made (base:=w.heap.size) (e:=5) (size:=1) (w.alloc (.cells cs 33)) ks 32 (by simp) (by unfold maxLen;omega) hks
 have A1:=Hd a1
 have LD1:Hid ((loadVar 33 ⟨w.heap.size,0,none⟩).run Tryz.prog ((w.alloc (.cells cs 33)).alloc (.cells ks 5))=.ok (.agg cs) ((w.alloc (.cells cs 33)).alloc (.cells ks 5))):=Hd (by
  rw[HCS.out];exact Xjy _ w.heap.size 0 _ _ _ HL.out.len (Xaf (heap_alloc_last w _)) (Xgt l))
 clear a1 hks LD
 refine wp_region_list ?_
 simp only[]
 refine Xac 33 rfl _ rfl ⟨_,_,rfl,LD1.out,?_⟩
 go_wp2_with fail
 go_loopg [3,5,8] 16 (fun k v c i wr=>∃j:Nat,j≤16∧k=16-j∧i=.int .i64 (j:Int)∧OW w.heap.size (Xbz (l.take j)) v wr∧Below w.heap.size w wr)
 case atStart=>exact⟨0,by omega,rfl,rfl,by have:=A1.out;rw[World.size_alloc] at this;exact this,B0.out.alloc (by simp) _⟩
 case round=>
  obtain⟨j,hj,rfl,rfl,hown,hbw⟩:=hrel
  by_cases h:j<16
  ·obtain⟨c,hc⟩:∃c,c=l.getD j 0:=⟨_,rfl⟩
   have hjl:j<l.length:=by rw[HL.out.len];exact h
   have hc2:c<256:=by rw[hc,List.getD_eq_getElem?_getD,List.getElem?_eq_getElem hjl,Option.getD_some];exact HL.out.lt _ (List.getElem_mem hjl)
   have ix:∀w,(Instr.index 33 (.agg cs) (.int .i64 (j:Int))).run Tryz.prog w=.ok (.int .u8 (c:Int)) w:=fun w=>by rw[HCS.out];exact Xuq HL.out.len j h c hc w
   have hst:=Xcm hjl hc
   have hlen:(Xbz (l.take j)).length≤200000:=by rw[Xbs,List.length_take];omega
   have hsz:w.heap.size≤wr.heap.size:=hbw.size
   have ST:=Hd hst;have HO:=Hd hown;have HB:=Hd hbw
   clear hst hown hbw hc hjl
   obtain⟨xs,hxs⟩:∃xs,xs=Xbz (l.take j):=⟨_,rfl⟩
   rw[←hxs] at ST HO hlen
   clear hxs
   obtain⟨x,ha⟩:∃a,a=c/16:=⟨_,rfl⟩
   obtain⟨y,hb⟩:∃b,b=c%16:=⟨_,rfl⟩
   have i1:=fun w=>Xiw x (x:Int) rfl (by omega) w
   have i2:=fun w=>Xiw y (y:Int) rfl (by omega) w
   have s1:(c:Int)/16=(x:Int):=by omega
   have s2:Go.bits .and .u8 (c:Int) 15=(y:Int):=by rw[hb];exact Xl4 c hc2
   rw[←ha,←hb] at ST
   have fin:∀(v':Value) (w1:World) (o:Obj),w1.ownsRow w.heap.size 5 1 v' (xs.length+2) (xs.map U++[U (hxl x),U (hxl y)])→(wr.drew.alloc o).grownBy w1 u3.ownBlock→OW w.heap.size (Xbz (l.take (j+1))) v' w1∧Below w.heap.size w w1:=by
    intro v' w1 o ho hg
    refine⟨?_,Xfl HB.out.drew hsz (Nat.le_refl _) HO.out.drew hg⟩
    rw[ST.out];exact OW.app (ys:=[hxl x,hxl y]) rfl rfl ho
   have FIN:=Hd fin
   clear ha hb fin
   go_wp2_with fail
   clear ix
   go_region_law ((refine step_append_lies _ (by rfl) _ _ _ (by rfl) w.heap.size 5 i0 _ 1 1 Tryz.underlying62 hi0 hz0 hz1 hz2 rfl (by omega) u3 xs.length (xs.map U) (by rfl) ((HO.out.drew).alloc _) ⟨wr.heap.size,0,none⟩ 2 2 [.int .u8 (hxl x),.int .u8 (hxl y)] (by rfl) (by rfl) (World.news_of_block (cs:=#[.int .u8 (hxl x),.int .u8 (hxl y)]) (t:=5) (fr:=(0,0)) (heap_alloc_new wr _)) (by simp[Value.oneCell']) (by omega) (by unfold maxLen;omega) (by omega) (by simp;omega) (wr.heap.size+1) (by simp) ?_;intro gg cap' w1 hown1 hgrow hat hlt2))
   all_goals
    have F1:=Hd (FIN.out _ w1 _ hown1 hgrow)
    clear hown1 hgrow hat hlt2
    go_wp2_with fail
    go_roundg (16-(j+1))
    case measure=>omega
    case rel=>exact⟨j+1,by omega,rfl,by go_num,F1.out.1,F1.out.2⟩
  ·have hall:l.take j=l:=List.take_of_length_le (by rw[HL.out.len];omega)
   rw[hall] at hown
   have hcv2:=Xmq (P:=Tryz.prog) 62 9 Tryz.underlying62 Tryz.underlying5 Tryz.underlying9 hown
   have HB:=Hd hbw
   clear hall hown hbw
   go_wp2_with fail
   go_ret
   exact⟨rfl,HB.out⟩
theorem Yh3 {c v:Nat} (h:hvl c=some v):v<16:=by unfold hvl at h;split at h;· simp at h;omega
                                                split at h;· simp at h;omega
                                                cases h
def hv (c:Nat):Nat:=(hvl c).getD 0
theorem Xoo {c:Nat} (h:hdB c=true):hvl c=some (hv c)∧hv c<16∧hvz c=(hv c:Int):=by
 unfold hdB at h
 cases hh:hvl c with
 |none=>rw[hh] at h;cases h
 |some v=>exact⟨by simp[hv,hh],by simp[hv,hh];exact Yh3 hh,by simp[hv,hvz,hh]⟩
def uh:List Nat→List Nat
 |a::b::t=>(16*hv a+hv b)::uh t
 |_=>[]
theorem Xg1:∀(n:Nat) (l:List Nat),l.length=2*n→l.all hdB=true→Xik l=some (uh l)
 |0,l,h,_=>by obtain rfl:=List.length_eq_zero_iff.1 (by simpa using h);rfl
 |n+1,a::b::t,h,hd=>by
  simp only[List.all_cons,Bool.and_eq_true] at hd
  have ih:=Xg1 n t (by simp at h;omega) hd.2.2
  simp only[Xik,(Xoo hd.1).1,(Xoo hd.2.1).1,ih,uh]
 |n+1,[_],h,_=>by simp at h;omega
 |n+1,[],h,_=>by simp at h
theorem Xe9:∀(l:List Nat),l.all hdB=false→Xik l=none
 |[],h=>by simp at h
 |[a],h=>rfl
 |a::b::t,h=>by
  simp only[Xik]
  by_cases ha:hdB a=true
  ·by_cases hb:hdB b=true
   ·have ht:t.all hdB=false:=by simpa [ha,hb] using h
    rw[Xe9 t ht]
    cases hvl a<;>cases hvl b<;>rfl
   ·unfold hdB at hb;simp at hb;rw[hb];cases hvl a<;>rfl
  ·unfold hdB at ha;simp at ha;rw[ha]
theorem Xjb:∀(n:Nat) (l:List Nat),l.length=2*n→(uh l).length=n
 |0,l,h=>by obtain rfl:=List.length_eq_zero_iff.1 (by simpa using h);rfl
 |n+1,a::b::t,h=>by simp only[uh,List.length_cons];rw[Xjb n t (by simp at h;omega)]
 |n+1,[_],h=>by simp at h;omega
 |n+1,[],h=>by simp at h
theorem Yd9:∀(l:List Nat),l.all hdB=true→∀x∈uh l,x<256
 |[],_,x,hx=>by simp[uh] at hx
 |[a],_,x,hx=>by simp[uh] at hx
 |a::b::t,h,x,hx=>by
  simp only[List.all_cons,Bool.and_eq_true] at h
  simp only[uh,List.mem_cons] at hx
  rcases hx with rfl|hx
  ·have:=(Xoo h.1).2.1;have:=(Xoo h.2.1).2.1;omega
  ·exact Yd9 t h.2.2 x hx
theorem Yc5:∀(n:Nat) (p:List Nat) (a b:Nat),p.length=2*n→uh (p++[a,b])=uh p++[16*hv a+hv b]
 |0,p,a,b,h=>by obtain rfl:=List.length_eq_zero_iff.1 (by simpa using h);rfl
 |n+1,x::y::t,a,b,h=>by simp only[List.cons_append,uh];rw[Yc5 n t a b (by simp at h;omega)]
 |n+1,[_],_,_,h=>by simp at h;omega
 |n+1,[],_,_,h=>by simp at h
theorem Yd8 {l:List Nat} {j a b:Nat} (h:2*j+1<l.length) (ha:a=l.getD (2*j) 0) (hb:b=l.getD (2*j+1) 0):uh (l.take (2*(j+1)))=uh (l.take (2*j))++[16*hv a+hv b]:=by
 rw[List.getD_eq_getElem?_getD,List.getElem?_eq_getElem (by omega),Option.getD_some] at ha hb
 have e:l.take (2*(j+1))=l.take (2*j)++[a,b]:=by
  rw[show 2*(j+1)=2*j+1+1 by omega,List.take_succ_eq_append_getElem h,List.take_succ_eq_append_getElem (by omega),←ha,←hb];simp
 rw[e,Yc5 j _ a b (by rw[List.length_take];omega)]
theorem Yd7 (w:World) (c:Nat) (hc:c<256):Calls Tryz.prog 201 #[.int .u8 (c:Int)] w fun e w'=>e=.returned (.bool (hdB c))∧w=w':=by
 have I:=Hd (fun w=>Xxs w c hc)
 have D:Hid (hdB c=decide (0≤hvz c)):=Hd (by unfold hdB hvz;cases hvl c<;>simp)
 obtain⟨r,hr⟩:∃r,r=hvz c:=⟨_,rfl⟩
 rw[←hr] at I D
 clear hr
 go_enter Tryz.func201,Tryz.ntmps201
 go_wp2_with (go_at_call 151;refine(I.out _).mono ?_;rintro e w' ⟨rfl,rfl⟩)
 go_ret
 exact⟨by rw[D.out];rfl,rfl⟩
theorem Xvq (w:World) (c:Nat) (hc:c<256) (hd:hdB c=true):Calls Tryz.prog 202 #[.int .u8 (c:Int)] w fun e w'=>e=.returned (.int .u8 (hv c:Nat))∧w=w':=by
 have I:=Hd (fun w=>Xxs w c hc)
 rw[(Xoo hd).2.2] at I
 have hv16:=(Xoo hd).2.1
 obtain⟨r,hr⟩:∃r,r=hv c:=⟨_,rfl⟩
 rw[←hr] at I hv16⊢
 have cv:IntKind.u8.wrap (r:Int)=(r:Int):=by rw[IntKind.wrap_u8];omega
 clear hr hd
 go_enter Tryz.func202,Tryz.ntmps202
 go_wp2_with (go_at_call 151;refine(I.out _).mono ?_;rintro e w' ⟨rfl,rfl⟩)
 go_ret
 exact⟨rfl,rfl⟩
set_option maxHeartbeats 1000000 in
theorem Xv9 (s:ByteArray) (w:World) (hs:s.size≤1000000) (hd:(bs s).all hdB=true):
    Calls Tryz.prog 152 #[.string s,.int .i64 0,.func (.func 201) #[] #[]] w fun e w'=>e=.returned (.int .i64 (s.size:Int))∧w=w':=by
 have HD:=Hd hd
 clear hd
 go_enter Tryz.func152,Tryz.ntmps152
 go_wp2_with fail
 go_loopg [1] s.size (fun k i wr=>∃j:Nat,j≤s.size∧k=s.size-j∧i=.int .i64 (j:Int)∧w=wr)
 case atStart=>exact⟨0,by omega,rfl,rfl,rfl⟩
 case round=>
  obtain⟨j,hj,rfl,rfl,rfl⟩:=hrel
  by_cases hlt:j<s.size
  ·obtain⟨c,hc⟩:∃c,c=(bs s).getD j 0:=⟨_,rfl⟩
   have hc2:c<256:=by rw[hc];exact Xa8 s j
   have hdc:hdB c=true:=by
    have hjl:j<(bs s).length:=by rw[Xaa];exact hlt
    rw[hc,List.getD_eq_getElem?_getD,List.getElem?_eq_getElem hjl,Option.getD_some]
    exact List.all_eq_true.1 HD.out _ (List.getElem_mem hjl)
   have xn:∀w,(Instr.index 9 (.string s) (.int .i64 (j:Int))).run Tryz.prog w=.ok (.int .u8 (c:Int)) w:=fun w=>by rw[Xa7 9 Tryz.underlying9 s .i64 j j rfl hlt,hc]
   have U:=Hd (fun w=>Yd7 w c hc2)
   rw[hdc] at U
   have d1:decide ((j:Int)<(s.size:Int))=true:=by simpa using hlt
   clear hc hdc
   go_wp2_with (go_at_call 201;refine(U.out _).mono ?_;rintro e w' ⟨rfl,rfl⟩)
   go_roundg (s.size-(j+1))
   case measure=>omega
   case rel=>exact⟨j+1,by omega,rfl,by go_num,rfl⟩
  ·obtain rfl:j=s.size:=by omega
   have d1:decide ((s.size:Int)<(s.size:Int))=false:=by simp
   go_wp2_with fail
   go_ret
   exact⟨rfl,rfl⟩
def Yiv (l:List Nat) (n:Nat) (w:World) (e:Ending) (w':World):Prop:=
 ∃v,e=.returned (.tuple #[v,.int .i64 0])∧w'.ownsRow w.heap.size 5 1 v n ((uh l).map U)∧Below w.heap.size w w'
set_option maxHeartbeats 2000000 in
theorem Xvu (s:ByteArray) (n:Nat) (w:World) (hn:s.size=2*n) (hs:s.size≤1000000) (hd:(bs s).all hdB=true):
    Calls Tryz.prog 156 #[.string s] w (Yiv (bs s) n w):=by
 obtain⟨i0,hi0,hz0,hz1,hz2⟩:=info_parts Xio
 have SK:=Hd (fun w=>Xv9 s w hs hd)
 have HD:=Hd hd
 have HN:=Hd hn
 have LEN:=Hd (Xaa s)
 have UL:Hid ((uh (bs s)).length=n):=Hd (Xjb n _ (by rw[Xaa];exact hn))
 have q0:(s.size:Int)%2=0:=by omega
 have q1:(s.size:Int)/2=(n:Int):=by omega
 have d1:decide ((s.size:Int)<(s.size:Int))=false:=by simp
 have hn2:n≤500000:=by omega
 clear hd hn
 go_enter Tryz.func156,Tryz.ntmps156
 go_wp2_with (first
  |(go_at_call 152;refine(SK.out _).mono ?_;rintro e w' ⟨rfl,rfl⟩)
  |(at_make;refine Xb8 _ rfl _ _ _ rfl 5 i0 _ 1 Tryz.underlying62 hi0 hz0 hz1 .i64 .i64 _ _ 0 n rfl rfl rfl (by omega) (by omega) (by rw[hz2];omega) (by unfold maxLen;omega) ?_;intro cs hcs))
 have a1:=World.ownsRow_made (base:=w.heap.size) (e:=5) (size:=1) w cs n (Nat.le_refl _) (by unfold maxLen;omega) hcs
 have A1:=Hd a1
 clear a1 hcs
 go_loopg [6,7] n (fun k v i wr=>∃j:Nat,j≤n∧k=n-j∧i=.int .i64 ((2*j:Nat):Int)∧OW w.heap.size (uh ((bs s).take (2*j))) v wr∧Below w.heap.size w wr)
 case atStart=>exact⟨0,by omega,rfl,rfl,A1.out,(Below.refl _ _).alloc (Nat.le_refl _) _⟩
 case round=>
  obtain⟨j,hj,rfl,rfl,hown,hbw⟩:=hrel
  by_cases h:j<n
  ·obtain⟨a,ha⟩:∃c,c=(bs s).getD (2*j) 0:=⟨_,rfl⟩
   obtain⟨b,hb⟩:∃c,c=(bs s).getD (2*j+1) 0:=⟨_,rfl⟩
   have hs2:s.size=2*n:=HN.out
   have ha2:a<256:=by rw[ha];exact Xa8 s _
   have hb2:b<256:=by rw[hb];exact Xa8 s _
   have dgt:∀k c,k<s.size→c=(bs s).getD k 0→hdB c=true:=fun k c hk hc=>by
    have hkl:k<(bs s).length:=by rw[LEN.out];exact hk
    rw[hc,List.getD_eq_getElem?_getD,List.getElem?_eq_getElem hkl,Option.getD_some]
    exact List.all_eq_true.1 HD.out _ (List.getElem_mem hkl)
   have hda:=dgt (2*j) a (by omega) ha
   have hdb:=dgt (2*j+1) b (by omega) hb
   have xa:∀w,(Instr.index 9 (.string s) (.int .i64 ((2*j:Nat):Int))).run Tryz.prog w=.ok (.int .u8 (a:Int)) w:=fun w=>by rw[Xa7 9 Tryz.underlying9 s .i64 _ (2*j) rfl (by omega),ha]
   have xa':∀w,(Instr.index 9 (.string s) (.int .i64 (2*(j:Int)))).run Tryz.prog w=.ok (.int .u8 (a:Int)) w:=fun w=>by rw[Xa7 9 Tryz.underlying9 s .i64 _ (2*j) (by omega) (by omega),ha]
   have xb:∀w,(Instr.index 9 (.string s) (.int .i64 (2*(j:Int)+1))).run Tryz.prog w=.ok (.int .u8 (b:Int)) w:=fun w=>by rw[Xa7 9 Tryz.underlying9 s .i64 _ (2*j+1) (by omega) (by omega),hb]
   have UA:=Hd (fun w=>Xvq w a ha2 hda)
   have UB:=Hd (fun w=>Xvq w b hb2 hdb)
   have ha16:=(Xoo hda).2.1
   have hb16:=(Xoo hdb).2.1
   have ST:=Hd (Yd8 (l:=bs s) (j:=j) (by rw[LEN.out];omega) ha hb)
   have hlen:(uh ((bs s).take (2*j))).length≤500000:=by rw[Xjb j _ (by rw[List.length_take,LEN.out];omega)];omega
   obtain⟨x,hx⟩:∃x,x=hv a:=⟨_,rfl⟩
   obtain⟨y,hy⟩:∃y,y=hv b:=⟨_,rfl⟩
   rw[←hx] at UA ha16 ST
   rw[←hy] at UB hb16 ST
   obtain⟨xs,hxs⟩:∃xs,xs=uh ((bs s).take (2*j)):=⟨_,rfl⟩
   rw[←hxs] at ST hlen hown
   have HO:=Hd hown;have HB:=Hd hbw
   have hsz:w.heap.size≤wr.heap.size:=hbw.size
   obtain⟨z,hz⟩:∃z,z=16*x+y:=⟨_,rfl⟩
   rw[←hz] at ST
   have hz256:z<256:=by omega
   have s1:IntKind.u8.wrap ((x:Int)*16)=(x:Int)*16:=by rw[IntKind.wrap_u8];omega
   have s2:Go.bits .or .u8 ((x:Int)*16) (y:Int)=(z:Int):=by
    rw[bits_join .u8 8 (by decide) wraps_u8 4 _ _ (by omega) (by omega) (by omega) (by omega) (by omega) (by omega)];omega
   have d2:decide ((2*(j:Int))<(s.size:Int))=true:=by simp;omega
   have w1:IntKind.i64.wrap (2*(j:Int)+1)=2*(j:Int)+1:=IntWalk.i64_in _ (by omega)
   have w1':IntKind.i64.wrap (((2*j:Nat):Int)+1)=2*(j:Int)+1:=(IntWalk.i64_in _ (by omega)).trans (by omega)
   have RN:Hid (∀(v':Value) (w1:World) (o:Obj),w1.ownsRow w.heap.size 5 1 v' (xs.length+1) (xs.map U++[U z])→(wr.drew.alloc o).grownBy w1 u6.ownBlock→OW w.heap.size (uh ((bs s).take (2*(j+1)))) v' w1∧Below w.heap.size w w1):=Hd (fun v' w1 o ho hg=>⟨by rw[ST.out];exact OW.app (ys:=[z]) rfl rfl ho,Xfl HB.out.drew hsz (Nat.le_refl _) HO.out.drew hg⟩)
   have HZ:=Hd hz
   have hsz2:w.heap.size≤wr.drew.heap.size:=hsz
   have HO2:Hid (OW w.heap.size xs u6 wr.drew):=HO
   clear hx hy hxs hown hbw hz ha hb hda hdb dgt hs2
   go_wp2_with fail
   go_region_held3 (fun w'=>True) (trivial) (first|((refine step_append_lies _ (by rfl) _ _ _ (by rfl) w.heap.size 5 i0 _ 1 1 Tryz.underlying62 hi0 hz0 hz1 hz2 rfl (by omega) u6 xs.length (xs.map U) rfl (HO2.out.alloc _) ⟨wr.drew.heap.size,0,none⟩ 1 1 [.int .u8 z] rfl rfl (World.news_of_block (cs:=#[.int .u8 z]) (t:=5) (fr:=(0,0)) (heap_alloc_new wr.drew _)) (by simp[Value.oneCell']) (by omega) (by unfold maxLen;omega) (by omega) (by simp;omega) _ rfl ?_;intro g cap wq hown1 hgrow hat hlt))|(go_at_call 202;((with_reducible refine(UA.out _).mono ?_);rintro e w' ⟨rfl,rfl⟩))|(go_at_call 202;((with_reducible refine(UB.out _).mono ?_);rintro e w' ⟨rfl,rfl⟩)))
   all_goals
    have F1:=Hd (RN.out _ wq _ hown1 hgrow)
    clear hown1 hgrow hat hlt
    go_wp2_with fail
    go_roundg (n-(j+1))
    case measure=>omega
    case rel=>exact⟨j+1,by omega,rfl,by go_num,F1.out.1,F1.out.2⟩
  ·obtain rfl:j=n:=by omega
   have d2:decide ((2*(j:Int))<(s.size:Int))=false:=by have:=HN.out;simp;omega
   have hall:(bs s).take (2*j)=bs s:=List.take_of_length_le (by rw[LEN.out,HN.out];exact Nat.le_refl _)
   rw[hall] at hown
   have HO:=Hd hown;have HB:=Hd hbw
   clear hall hown hbw
   go_wp2_with fail
   go_ret2
   refine⟨u6,rfl,?_,HB.out⟩
   have:=HO.out
   unfold OW at this
   rwa [UL.out] at this
theorem Xai {P:Program} (w:World) (g off:Nat) (ty:TypeId) (ids:Array Value) (d:TypeDesc)
    (hu:P.underlying ty=some d) (hd:(match d with|.struct _|.array _ _=>true|_=>false)=true) (hi:(P.info? ty).map (·.size)=some ids.size)
    (hp:∀j u,ids[j]?=some u→w.cell? ⟨g,off+j,none⟩=some u):(loadVar ty ⟨g,off,none⟩).run P w=.ok (.agg ids) w:=by
 have hl:(loadCells ⟨g,off,none⟩ ids.toList.length).run P w=.ok ids.toList.toArray w:=
  run_loadCells_list (P:=P) w ⟨g,off,none⟩ ids.toList (fun j u hv=>by
   have hadd:(⟨g,off,none⟩:Addr).add j=⟨g,off+j,none⟩:=by unfold Addr.add;split<;>simp_all
   rw[hadd]
   exact hp j u (by simpa using hv))
 cases hq:P.info? ty with
 |none=>simp[hq] at hi
 |some i=>
  have hs:i.size=ids.size:=by simpa [hq] using hi
  have hagg:(isAgg ty).run P w=.ok true w:=by
   unfold isAgg
   rw[Sem.run_bind,run_underlying hu w]
   cases d<;>simp_all
  simp only[Array.length_toList,Array.toArray_toList] at hl
  simp[loadVar,Sem.run_bind,hagg,sizeOf,typeInfo,hq,hs,hl]
theorem Rd.cells {w:World} {b off:Nat} {l:List Nat} (h:Rd w (some ⟨b,off,none⟩) l):∀j u,(idA l)[j]?=some u→w.cell? ⟨b,off+j,none⟩=some u:=by
 intro j u hu
 unfold idA at hu
 rw[List.getElem?_toArray] at hu
 obtain⟨hj,rfl⟩:=List.getElem?_eq_some_iff.1 hu
 rw[List.length_map] at hj
 obtain⟨b',off',e,_,hc⟩:=h.at_ (by omega)
 cases e
 rw[hc j hj]
 simp
theorem Ydd (w:World) {l:List Nat} (hl:∀x∈l,x<256) {t:TypeId} {fr:Nat×Nat} {b:Nat} (hb:w.heap[b]?=some (.cells (idA l) t fr)):Rd w (some ⟨b,0,none⟩) l:=
 ⟨hl,fun _=>⟨b,0,rfl,lt_of_block hb,fun i hi=>by rw[Nat.zero_add,cell_of_row w b i _ _ _ hb];simp[idA,hi]⟩⟩
theorem Xr3:(Tryz.prog.info? 177).map (·.size)=some 64:=by kernel_rfl
theorem Xed (l:List Nat):(idA l).all (·.oneCell')=true:=by
 rw[Array.all_eq_true']
 intro x hx
 unfold idA at hx
 simp at hx
 obtain⟨n,_,rfl⟩:=hx
 rfl
theorem Xae {P:Program} {ops:Array Oper} {rest:List Oper} {o:Oper} {a:Act} {w:World} {Q:Exit→Act→World→Prop} (t:TypeId) (hgd:o.guard=none) (ho:o.op=.build t #[]) (h:∃v,(Instr.build t #[]).run P w=.ok v w∧wpList P ops Q rest (a.put o.dst v) w):wpList P ops Q (o::rest) a w:=by
 obtain⟨v,h1,h2⟩:=h
 exact Xaz hgd (Xcr ho (by simpa using h1)) h2
theorem Xst {l:List Nat} (h:IdOk l):∀x∈Xbz l,x<256:=Xx1 h.lt
set_option maxHeartbeats 1000000 in
theorem Xuz (w:World) {l:List Nat} (hl:IdOk l):
    Calls Tryz.prog 137 #[.agg (idA l)] w fun e w'=>e=.returned (.agg (idA (Xbz l)))∧Below w.heap.size w w':=by
 obtain⟨cs,hcs⟩:∃cs,cs=idA l:=⟨_,rfl⟩
 have HX:Hid (∀(w':World),w'.heap[w.heap.size]?=some (.cells cs 26 (0,0))→Calls Tryz.prog 177 #[.slice (some ⟨w.heap.size,0,none⟩) 32 32] w' fun e w''=>e=.returned (.string (Xaq (Xbz l)))∧Below w'.heap.size w' w''):=Hd (fun w' h=>by
  have:=Yfi w' (some ⟨w.heap.size,0,none⟩) 32 l (by rw[hl.len];omega) (Ydd w' hl.lt (by rw[hcs] at h;exact h))
  rw[hl.len] at this
  exact this)
 have SZ:(Xaq (Xbz l)).size=64:=by rw[Xan,Xbs,hl.len]
 have BS:bs (Xaq (Xbz l))=Xbz l:=Xc1 _ (Xst hl)
 have LEN:(Xbz l).length=64:=by rw[Xbs,hl.len]
 have HSZ:=Hd SZ;have HBS:=Hd BS;have HLEN:=Hd LEN
 rw[←hcs]
 clear hcs SZ BS LEN hl
 go_enter Tryz.func137,Tryz.ntmps137
 go_wp2_with fail
 refine(HX.out _ (by first|exact Xaf (heap_alloc_new w _)|exact heap_alloc_new w _)).mono ?_
 rintro e w1 ⟨rfl,hb1⟩
 obtain⟨s,hs⟩:∃s,s=Xaq (Xbz l):=⟨_,rfl⟩
 rw[←hs] at HSZ HBS⊢
 obtain⟨W,cap,hcv,hrd,hbw,hz⟩:=Xpd s w1
 rw[HSZ.out] at hcv
 obtain⟨zz,hzz,hz64⟩:∃zz,w1.heap[w.heap.size+1]?=some (.cells zz 177 (0,0))∧zz.size=64:=
  ⟨_,(hb1.block (w.heap.size+1) (by simp)).trans (by have:=heap_alloc_new (w.alloc (.cells cs 26)) (.cells (Array.replicate 64 (.int .u8 0)) 177);rw[World.size_alloc] at this;exact this),rfl⟩
 have hb0:Below w.heap.size w w1:=(((Below.refl _ w).alloc (Nat.le_refl _) _).alloc (by simp) _).trans (hb1.mono (by simp;omega))
 have HZ:=Hd hzz
 have hlt:w.heap.size+1<w1.heap.size:=lt_of_block hzz
 have hZW:W.heap[w.heap.size+1]?=some (.cells zz 177 (0,0)):=(hbw.block _ hlt).trans hzz
 have BW:=Hd (hb0.trans (hbw.mono (by omega)))
 have LD:Hid ((loadVar 177 ⟨w1.heap.size,0,none⟩).run Tryz.prog W=.ok (.agg (idA (Xbz l))) W):=Hd (by
  rw[HBS.out] at hrd
  exact Xai W w1.heap.size 0 _ _ _ Tryz.underlying177 rfl (by rw[Xag,HLEN.out];exact Xr3) hrd.cells)
 have ST:=Hd (run_storeVar_row (P:=Tryz.prog) W (w.heap.size+1) _ 177 zz (idA (Xbz l)) hZW (by rw[Xag,HLEN.out];exact Xr3) (by rw[Xag,HLEN.out,hz64]) (Xed _))
 have W2:=Hd (setRow_heap W (w.heap.size+1) zz (idA (Xbz l)) _ _ hZW)
 have B2:=Hd (below_setRow BW.out (show w.heap.size≤w.heap.size+1 by omega) (idA (Xbz l)))
 obtain⟨xs,hxs⟩:∃xs,xs=idA (Xbz l):=⟨_,rfl⟩
 rw[←hxs] at LD ST W2 B2
 have HXS:=Hd hxs
 have XL:Hid (xs.size=64):=Hd (by rw[hxs,Xag,HLEN.out])
 clear hb1 hb0 hzz hZW hz64 hrd hbw hz hxs HX hs hlt
 have hat:∀w,(Instr.arrayAt 177 (.slice (some ⟨w1.heap.size,0,none⟩) 64 cap)).run Tryz.prog w=.ok (.pointer (some ⟨w1.heap.size,0,none⟩)) w:=fun w=>by kernel_rfl
 go_wp2_with (first
  |((with_reducible refine Xac 177 rfl _ rfl ?_);refine⟨_,_,rfl,LD.out,?_⟩)
  |((with_reducible refine Xab 177 rfl _ _ rfl ?_);refine⟨_,_,_,rfl,rfl,ST.out,?_⟩))
 exact bodyPost_ret (v:=.agg xs) (results_cell_row Tryz.results137 _ _ (w.heap.size+1) _ _ _ _ rfl W2.out Tryz.underlying177 rfl (by rw[XL.out];exact Xr3)) rfl ⟨by rw[HXS.out],B2.out⟩
theorem Xfs (w:World) {l:List Nat} (hl:IdOk l):
    Calls Tryz.prog 99 #[.agg (idA l)] w fun e w'=>e=.returned (.bool (decide (l=zero32)))∧Below w.heap.size w w':=by
 obtain⟨cs,hcs⟩:∃cs,cs=idA l:=⟨_,rfl⟩
 obtain⟨zs,hzs⟩:∃zs,zs=idA zero32:=⟨_,rfl⟩
 have zok:IdOk zero32:=⟨by simp[zero32],fun x hx=>by simp[zero32] at hx;omega⟩
 have LD:Hid ((loadVar 26 ⟨w.heap.size,0,none⟩).run Tryz.prog (w.alloc (.cells cs 26))=.ok (.agg cs) (w.alloc (.cells cs 26))):=Hd (by
  rw[hcs];exact Xjx _ w.heap.size 0 _ _ _ hl.len (heap_alloc_last w _) (Xgt l))
 have BU:Hid (∀w,(Instr.build 26 #[]).run Tryz.prog w=.ok (.agg zs) w):=Hd (fun w=>by rw[hzs];kernel_rfl)
 have EQ:Hid (∀w,(Op.equal 26 (.agg cs) (.agg zs)).run Tryz.prog w=.ok (decide (l=zero32)) w):=Hd (fun w=>by rw[hcs,hzs];exact Xuw w hl zok)
 obtain⟨b,hb⟩:∃b,b=decide (l=zero32):=⟨_,rfl⟩
 rw[←hb] at EQ⊢
 rw[←hcs]
 clear hcs hzs hb hl
 go_enter Tryz.func99,Tryz.ntmps99
 go_upto_region 1 with fail
 refine wp_region_list ?_
 simp only[]
 refine Xac 26 rfl _ rfl ⟨_,_,rfl,LD.out,?_⟩
 refine Xae 26 rfl rfl ⟨_,BU.out _,?_⟩
 refine Xc4 26 rfl _ _ rfl Xbw ⟨cs,zs,b,by kernel_rfl,by kernel_rfl,EQ.out _,?_⟩
 go_wp2_with fail
 go_ret
 exact⟨rfl,(Below.refl _ _).alloc (Nat.le_refl _) _⟩
theorem Yfx (w:World) (b off cap:Nat) (l:List Nat) (h:Rd w (some ⟨b,off,none⟩) l):(convert 62 9 (.slice (some ⟨b,off,none⟩) l.length cap)).run Tryz.prog w=.ok (.string (Xaq l)) w:=by
 refine Xl2 w 62 5 9 Tryz.underlying62 Tryz.underlying5 Tryz.underlying9 b off cap l ?_
 intro i hi
 obtain⟨b',off',e,_,hc⟩:=h.at_ (by omega)
 cases e
 rw[hc i hi]
theorem Xru (a b:List Nat):Xaq a++Xaq b=Xaq (a++b):=by
 apply ByteArray.ext
 simp[Xaq]
set_option maxHeartbeats 1000000 in
theorem Xlm (w:World) {l:List Nat} (hl:IdOk l):
    Calls Tryz.prog 96 #[.agg (idA l)] w fun e w'=>e=.returned (.string (Xaq (Xc2 l)))∧Below w.heap.size w w':=by
 obtain⟨cs,hcs⟩:∃cs,cs=idA l:=⟨_,rfl⟩
 have D:=Hd (Xuz (w.alloc (.cells cs 26)) hl)
 have LD:Hid ((loadVar 26 ⟨w.heap.size,0,none⟩).run Tryz.prog (w.alloc (.cells cs 26))=.ok (.agg cs) (w.alloc (.cells cs 26))):=Hd (by
  rw[hcs];exact Xjx _ w.heap.size 0 _ _ _ hl.len (heap_alloc_last w _) (Xgt l))
 have LEN:Hid ((Xbz l).length=64):=Hd (by rw[Xbs,hl.len])
 have HOK:=Hd hl
 have MF:Hid (Xaq (Xc2 l)=Xaq [60]++Xaq (Xbz l)++Xaq sHash):=Hd (by rw[Xru,Xru];rfl)
 rw[←hcs] at D⊢
 clear hcs hl
 go_enter Tryz.func96,Tryz.ntmps96
 go_upto_region 1 with fail
 refine wp_region_list ?_
 simp only[]
 refine Xac 26 rfl _ rfl ⟨_,_,rfl,LD.out,?_⟩
 go_wp2_with fail
 refine D.out.mono ?_
 rintro e w1 ⟨rfl,hb1⟩
 obtain⟨xs,hxs⟩:∃xs,xs=idA (Xbz l):=⟨_,rfl⟩
 have HXS:=Hd hxs
 have hs64:xs.size=64:=by rw[hxs,Xag,LEN.out]
 have ST:Hid (∀zz:Array Value,zz.size=64→(storeVar 177 ⟨w1.heap.size,0,none⟩ (.agg xs)).run Tryz.prog (w1.alloc (.cells zz 177))=.ok () (w1.alloc (.cells xs 177))):=Hd (fun zz hz=>run_storeVar_new w1 177 zz xs (by rw[hs64];exact Xr3) (by rw[hz,hs64]) (by rw[hxs];exact Xed _))
 have hcv:=Yfx (w1.alloc (.cells xs 177)) w1.heap.size 0 64 (Xbz l) (Ydd _ (Xst (HOK.out)) (by rw[hxs];exact heap_alloc_new w1 _))
 rw[LEN.out] at hcv
 have B1:Hid (Below w.heap.size w (w1.alloc (.cells xs 177))):=Hd ((((Below.refl _ w).alloc (Nat.le_refl _) _).trans (hb1.mono (by simp))).alloc (by have:=hb1.size;simp at this;omega) _)
 rw[←hxs]
 obtain⟨s,hs⟩:∃s,s=Xaq (Xbz l):=⟨_,rfl⟩
 have hsz:s.size≤64:=by rw[hs,Xan,LEN.out];exact Nat.le_refl _
 have hsz2:((⟨#[60]⟩:ByteArray)++s).size≤65:=by simp[ByteArray.size_append];show 1+s.size≤65;omega
 rw[←hs] at hcv MF
 clear hb1 hxs hs64 hs D LD
 go_wp2_with ((with_reducible refine Xab 177 rfl _ _ rfl ?_);refine⟨_,_,_,rfl,rfl,ST.out _ rfl,?_⟩)
 go_ret
 exact⟨by rw[MF.out];rfl,B1.out⟩
theorem Xkf {l:List Nat} {n j:Nat} (h:j<n):(l.take n).getD j 0=l.getD j 0:=by
 simp only[List.getD_eq_getElem?_getD,List.getElem?_take,if_pos h]
theorem Xff {l:List Nat} (n j:Nat):(l.drop n).getD j 0=l.getD (n+j) 0:=by
 simp only[List.getD_eq_getElem?_getD,List.getElem?_drop]
theorem Xgx {p:Nat→Bool} {l:List Nat} (h:∀j,j<l.length→p (l.getD j 0)=true):l.all p=true:=by
 rw[List.all_eq_true]
 intro x hx
 obtain⟨i,hi,rfl⟩:=List.getElem_of_mem hx
 have:=h i hi
 rwa [List.getD_eq_getElem?_getD,List.getElem?_eq_getElem hi,Option.getD_some] at this
theorem Xlo {l:List Nat} (h71:l.length=71) (h:∀j,j<71→Xge j (l.getD j 0)=true):((l.drop 1).take 64).all hdB=true:=by
 refine Xgx fun j hj=>?_
 rw[List.length_take,List.length_drop] at hj
 rw[Xkf (by omega),Xff]
 have:=h (1+j) (by omega)
 unfold Xge at this
 rwa [if_neg (by omega),if_pos (by omega)] at this
theorem Xsl {l:List Nat} (h71:l.length=71) (h:∀j,j<71→Xge j (l.getD j 0)=true):Xe4 l=some (uh ((l.drop 1).take 64)):=by
 have h0:=h 0 (by omega)
 unfold Xge at h0
 rw[if_pos (by omega),decide_eq_true_iff] at h0
 have h65:l.drop 65=sHash:=by
  apply List.ext_getElem
  ·rw[List.length_drop,h71];rfl
  ·intro j h1 h2
   have h2':j<6:=h2
   have:=h (65+j) (by omega)
   unfold Xge at this
   rw[if_neg (by omega),if_neg (by omega),decide_eq_true_iff,show 65+j-65=j by omega,←Xff] at this
   rw[List.getD_eq_getElem?_getD,List.getElem?_eq_getElem h1,Option.getD_some,List.getD_eq_getElem?_getD,List.getElem?_eq_getElem h2,Option.getD_some] at this
   exact this
 unfold Xe4
 rw[if_pos ⟨h71,h0,h65⟩]
 exact Xg1 32 _ (by rw[List.length_take,List.length_drop,h71];rfl) (Xlo h71 h)
theorem Xxa {l:List Nat} {j:Nat} (hj:j<71) (hl:j<l.length) (h:Xge j (l.getD j 0)=false):Xe4 l=none:=by
 unfold Xe4
 split
 ·rename_i hc
  obtain⟨h71,h0,h65⟩:=hc
  by_cases h1:j<1
  ·obtain rfl:j=0:=by omega
   unfold Xge at h;rw[if_pos (by omega),h0] at h;exact absurd h (by decide)
  ·by_cases h2:j<65
   ·unfold Xge at h
    rw[if_neg h1,if_pos h2] at h
    refine Xe9 _ ?_
    rw[List.all_eq_false]
    refine⟨l.getD j 0,?_,by rw[h];decide⟩
    have hm:j-1<((l.drop 1).take 64).length:=by rw[List.length_take,List.length_drop];omega
    have:((l.drop 1).take 64)[j-1]=l.getD j 0:=by
     have e:=Xkf (l:=l.drop 1) (n:=64) (j:=j-1) (by omega)
     rw[Xff,show 1+(j-1)=j by omega] at e
     rw[←e,List.getD_eq_getElem?_getD,List.getElem?_eq_getElem hm,Option.getD_some]
    rw[←this];exact List.getElem_mem hm
   ·unfold Xge at h
    rw[if_neg h1,if_neg h2,decide_eq_false_iff_not] at h
    exfalso;apply h
    rw[←h65,Xff,show 65+(j-65)=j by omega]
 ·rfl
theorem Xmv {l:List Nat} (h:l.length≠71):Xe4 l=none:=by unfold Xe4;rw[if_neg (fun e=>h e.1)]
theorem Xln {l id:List Nat} (h:Xe4 l=some id):IdOk id:=by
 unfold Xe4 at h
 split at h
 ·rename_i hc
  by_cases hd:((l.drop 1).take 64).all hdB=true
  ·rw[Xg1 32 _ (by rw[List.length_take,List.length_drop,hc.1];rfl) hd] at h
   cases h
   exact⟨Xjb 32 _ (by rw[List.length_take,List.length_drop,hc.1];rfl),Yd9 _ hd⟩
  ·rw[Xe9 _ (by simpa using hd)] at h;cases h
 ·cases h
def Xl8 (l:List Nat) (w:World) (e:Ending) (w':World):Prop:=
 ∃(a er:Int),(match Xe4 l with
  |some id=>e=.returned (.tuple #[.agg (idA id),.int .i64 a,.int .i64 0])
  |none=>e=.returned (.tuple #[.agg (idA zero32),.int .i64 a,.int .i64 er])∧er≠0)∧Below w.heap.size w w'
theorem Xas {P:Program} {fn:Func} {p u v:Tmp} {ty:TypeId} (h:fn.results=#[.cell p ty,.tmp u,.tmp v]) (tmps:Array Value) (w:World) (g:Nat) (t:TypeId) (cs:Array Value) (fr:Nat×Nat) (d:TypeDesc)
    (hp:tmps.getD p undef=.pointer (some ⟨g,0,none⟩)) (hg:w.heap[g]?=some (.cells cs t fr))
    (hu:P.underlying ty=some d) (hd:(match d with|.struct _|.array _ _=>true|_=>false)=true) (hi:(P.info? ty).map (·.size)=some cs.size):
    (results fn tmps).run P w=.ok (.tuple #[.agg cs,tmps.getD u undef,tmps.getD v undef]) w:=by
 have hp':tmps[p]?.getD undef=.pointer (some ⟨g,0,none⟩):=by simpa using hp
 simp[results,h,hp',asAddr,run_loadVar_row w g t ty cs fr d hg hu hd hi]
theorem zero_ok:IdOk zero32:=⟨by simp[zero32],fun x hx=>by simp[zero32] at hx;omega⟩
set_option maxHeartbeats 4000000 in
theorem Xhq (s:ByteArray) (w:World) (hs:s.size≤1000000):
    Calls Tryz.prog 115 #[.string s] w (Xl8 (bs s) w):=by
 obtain⟨zs,hzs⟩:∃zs,zs=idA zero32:=⟨_,rfl⟩
 have LEN:=Hd (Xaa s)
 have HZS:=Hd hzs
 have z32:zs.size=32:=by rw[hzs];rfl
 have Z32:=Hd z32
 have BU:Hid (∀w,(Instr.build 26 #[]).run Tryz.prog w=.ok (.agg zs) w):=Hd (fun w=>by rw[hzs];kernel_rfl)
 have STN:Hid ((storeVar 26 ⟨w.heap.size,0,none⟩ (.agg zs)).run Tryz.prog (w.alloc (.cells zs 26))=.ok () (w.alloc (.cells zs 26))):=Hd (run_storeVar_new w 26 zs zs (by rw[z32];exact Xbf) rfl (by rw[hzs];exact Xed _))
 have RES:Hid (∀(tmps:Array Value),tmps.getD 2 undef=.pointer (some ⟨w.heap.size,0,none⟩)→(results Tryz.f115 tmps).run Tryz.prog (w.alloc (.cells zs 26))=.ok (.tuple #[.agg zs,tmps.getD 3 undef,tmps.getD 4 undef]) (w.alloc (.cells zs 26))):=Hd (fun tmps h=>
  Xas Tryz.results115 tmps _ w.heap.size _ zs _ _ h (heap_alloc_last w _) Tryz.underlying26 rfl (by rw[Z32.out];exact Xbf))
 have B0:Hid (Below w.heap.size w (w.alloc (.cells zs 26))):=Hd ((Below.refl _ _).alloc (Nat.le_refl _) _)
 have NO:Hid (Xe4 (bs s)=none→∀a er:Int,er≠0→Xl8 (bs s) w (.returned (.tuple #[.agg zs,.int .i64 a,.int .i64 er])) (w.alloc (.cells zs 26))):=Hd (fun h a er he=>⟨a,er,by rw[h,HZS.out];exact⟨rfl,he⟩,B0.out⟩)
 have BAD:Hid (∀j,j<71→j<s.size→Xge j ((bs s).getD j 0)=false→Xe4 (bs s)=none):=Hd (fun j h1 h2 h3=>Xxa h1 (by rw[LEN.out];exact h2) h3)
 obtain⟨mn,hmn⟩:∃mn:Nat,mn=min s.size 71:=⟨_,rfl⟩
 have hm1:mn≤s.size:=by omega
 have hm2:mn≤71:=by omega
 have HMN:=Hd hmn
 have mi:min (s.size:Int) 71=(mn:Int):=by omega
 have START:Hid (w.alloc (.cells (Array.replicate 32 (.int .u8 0)) 26)=w.alloc (.cells zs 26)):=Hd (by rw[hzs];rfl)
 clear hzs z32 hmn
 go_enter Tryz.func115,Tryz.ntmps115
 go_wp2_with fail
 go_loopg [5,10] mn (fun k x i wr=>∃j:Nat,j≤mn∧k=mn-j∧i=.int .i64 (j:Int)∧Hid (∀q,q<j→Xge q ((bs s).getD q 0)=true)∧w.alloc (.cells zs 26)=wr)
 case atStart=>exact⟨0,by omega,rfl,rfl,(fun q hq=>by omega),START.out.symm⟩
 case round=>
  obtain⟨j,hj,rfl,rfl,hg,rfl⟩:=hrel
  by_cases hlt:j<mn
  ·obtain⟨c,hc⟩:∃c,c=(bs s).getD j 0:=⟨_,rfl⟩
   have hc2:c<256:=by rw[hc];exact Xa8 s j
   have xn:∀w,(Instr.index 9 (.string s) (.int .i64 (j:Int))).run Tryz.prog w=.ok (.int .u8 (c:Int)) w:=fun w=>by rw[Xa7 9 Tryz.underlying9 s .i64 j j rfl (by omega),hc]
   have F:=Hd (fun w=>Yb0 w j c (by omega) hc2)
   obtain⟨b,hb⟩:∃b,b=Xge j c:=⟨_,rfl⟩
   rw[←hb] at F
   have HB:=Hd hb;have HC:=Hd hc
   clear hc hb
   cases b
   ·have NN:=Hd (NO.out (BAD.out j (by omega) (by omega) (by rw[←HC.out,←HB.out])))
    go_wp2_with (first
     |(go_at_call 155;refine(F.out _).mono ?_;rintro e w' ⟨rfl,rfl⟩)
     |((with_reducible refine Xae 26 rfl rfl ?_);refine⟨_,BU.out _,?_⟩)
     |((with_reducible refine Xab 26 rfl _ _ rfl ?_);refine⟨_,_,_,rfl,rfl,STN.out,?_⟩))
    exact bodyPost_ret (RES.out _ rfl) rfl (NN.out _ 6 (by decide))
   ·have G2:Hid (∀q,q<j+1→Xge q ((bs s).getD q 0)=true):=Hd (fun q hq=>by
       by_cases e:q=j
       ·rw[e,←HC.out,←HB.out]
       ·exact hg.out q (by omega))
    go_wp2_with (go_at_call 155;refine(F.out _).mono ?_;rintro e w' ⟨rfl,rfl⟩)
    go_roundg (mn-(j+1))
    case measure=>omega
    case rel=>exact⟨j+1,by omega,rfl,by go_num,G2,rfl⟩
  ·obtain rfl:j=mn:=by omega
   by_cases h1:s.size<71
   ·have NN:=Hd (NO.out (Xmv (by rw[LEN.out];omega)))
    go_wp2_with (first
     |((with_reducible refine Xae 26 rfl rfl ?_);refine⟨_,BU.out _,?_⟩)
     |((with_reducible refine Xab 26 rfl _ _ rfl ?_);refine⟨_,_,_,rfl,rfl,STN.out,?_⟩))
    exact bodyPost_ret (RES.out _ rfl) rfl (NN.out _ 4 (by decide))
   ·by_cases h2:71<s.size
    ·have NN:=Hd (NO.out (Xmv (by rw[LEN.out];omega)))
     go_wp2_with (first
      |((with_reducible refine Xae 26 rfl rfl ?_);refine⟨_,BU.out _,?_⟩)
      |((with_reducible refine Xab 26 rfl _ _ rfl ?_);refine⟨_,_,_,rfl,rfl,STN.out,?_⟩))
     exact bodyPost_ret (RES.out _ rfl) rfl (NN.out _ 5 (by decide))
    ·have h71:s.size=71:=by omega
     have hj71:j=71:=by have:=HMN.out;omega
     have ME:bs (s.extract 1 65)=((bs s).drop 1).take 64:=by rw[Xby,List.drop_take]
     have GG:∀q,q<71→Xge q ((bs s).getD q 0)=true:=fun q hq=>hg.out q (by omega)
     have YES:=Hd (Xsl (by rw[LEN.out];exact h71) GG)
     have DG:=Xlo (by rw[LEN.out];exact h71) GG
     have UX:=Hd (Xvu (s.extract 1 65) 32 (w.alloc (.cells zs 26)) (by rw[ByteArray.size_extract];omega) (by rw[ByteArray.size_extract];omega) (by rw[ME];exact DG))
     rw[ME] at UX
     have IDOK:=Hd (Xln YES.out)
     clear ME GG DG hg hj71 BU STN
     go_wp2_with fail
     refine UX.out.mono ?_
     rintro e w1 ⟨v,rfl,hown,hb1⟩
     obtain⟨ul,hul⟩:∃ul,ul=uh (((bs s).drop 1).take 64):=⟨_,rfl⟩
     rw[←hul] at hown YES IDOK
     obtain⟨g,cap,rfl⟩:=ownsRow_succ hown
     have hown':w1.ownsRow (w.alloc (.cells zs 26)).heap.size 5 1 (.slice (some ⟨g,0,none⟩) 32 cap) 32 (ul.map U):=hown
     have UL:Hid (ul.length=32):=Hd IDOK.out.len
     have LD:Hid ((loadVar 26 ⟨g,0,none⟩).run Tryz.prog w1=.ok (.agg (idA ul)) w1):=Hd (Xai w1 g 0 _ _ _ Tryz.underlying26 rfl (by rw[Xag,UL.out];exact Xbf) (by
      intro j u hu
      have hj:j<32:=by
       have:=(Array.getElem?_eq_some_iff.1 hu).1
       rw[Xag,UL.out] at this;exact this
      rw[Nat.zero_add,hown'.cellAt j (by omega)]
      unfold idA at hu
      rw[List.getElem?_toArray] at hu
      exact hu))
     have hz1:w1.heap[w.heap.size]?=some (.cells zs 26 (0,0)):=(hb1.block w.heap.size (by simp)).trans (heap_alloc_new w _)
     have hb0:Below w.heap.size w w1:=B0.out.trans (hb1.mono (by simp))
     have ST:=Hd (run_storeVar_row (P:=Tryz.prog) w1 w.heap.size _ 26 zs (idA ul) hz1 (by rw[Xag,UL.out];exact Xbf) (by rw[Xag,UL.out,Z32.out]) (Xed _))
     have W2:=Hd (setRow_heap w1 w.heap.size zs (idA ul) _ _ hz1)
     have B2:=Hd (below_setRow hb0 (Nat.le_refl w.heap.size) (idA ul))
     have hat:∀w,(Instr.arrayAt 26 (.slice (some ⟨g,0,none⟩) (31+1) cap)).run Tryz.prog w=.ok (.pointer (some ⟨g,0,none⟩)) w:=fun w=>by kernel_rfl
     obtain⟨xs,hxs⟩:∃xs,xs=idA ul:=⟨_,rfl⟩
     have XL:Hid (xs.size=32):=Hd (by rw[hxs,Xag,UL.out])
     rw[←hxs] at LD ST W2 B2
     have HXS:=Hd hxs
     clear hown hown' hul hb1 hb0 hz1 hxs RES NO BAD START
     go_wp2_with (first
      |((with_reducible refine Xac 26 rfl _ rfl ?_);refine⟨_,_,rfl,LD.out,?_⟩)
      |((with_reducible refine Xab 26 rfl _ _ rfl ?_);refine⟨_,_,_,rfl,rfl,ST.out,?_⟩))
     exact bodyPost_ret (Xas Tryz.results115 _ _ w.heap.size _ _ _ _ rfl W2.out Tryz.underlying26 rfl (by rw[XL.out];exact Xbf)) rfl (by unfold Xl8;rw[YES.out];simp only[];rw[←HXS.out];exact⟨_,0,rfl,B2.out⟩)
end Go.Proofs.YtohmdledkhgdaaaGreatDoor
