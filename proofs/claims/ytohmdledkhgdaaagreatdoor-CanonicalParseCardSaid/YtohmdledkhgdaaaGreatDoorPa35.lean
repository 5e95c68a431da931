/- bulletinref17.moderators, Name, sorts; bulletinref02.Decode of a text; bulletinref08.ParsePublic. -/
import Derived.Test.YtohmdledkhgdaaaGreatDoorPa34
namespace Go.Proofs.YtohmdledkhgdaaaGreatDoor
open Go.RowKit
set_option linter.unusedVariables false
set_option maxRecDepth 100000
theorem Xwm (w:World) (a:Option Addr) (cap:Nat) (ids:List (List Nat)) (h0:0<ids.length) (hn:ids.length≤1000000) (hA:Ygo w a ids) (hok:∀x∈ids,AuOk x):
    Calls Tryz.prog 170 #[.slice a ids.length cap] w fun e w'=>e=.returned (.int .i64 ((if 8<ids.length then 9 else if Xlw ids=false then 30 else 0:Nat):Int))∧Dr w w':=by
 have C:=Hd (Xwn w a cap ids hn hA hok)
 obtain⟨n,hn'⟩:∃n,n=ids.length:=⟨_,rfl⟩
 rw[←hn'] at hn C h0⊢
 obtain⟨b,hb⟩:∃b,b=Xlw ids:=⟨_,rfl⟩
 rw[←hb] at C⊢
 clear hA hok hn' hb
 have q1:((n:Int)==0)=false:=Xak (by omega)
 by_cases h8:8<n
 ·rw[if_pos h8]
  go_enter Tryz.func170,Tryz.ntmps170
  go_wp2_with fail
  go_ret
  exact⟨rfl,Dr.refl _⟩
 ·rw[if_neg h8]
  cases b with
  |true=>
   go_enter Tryz.func170,Tryz.ntmps170
   go_wp2_with fail
   refine C.out.mono ?_
   rintro e w2 ⟨rfl,hd⟩
   have D:=Hd hd
   clear hd C
   go_wp2_with fail
   go_ret
   exact⟨rfl,D.out⟩
  |false=>
   go_enter Tryz.func170,Tryz.ntmps170
   go_wp2_with fail
   refine C.out.mono ?_
   rintro e w2 ⟨rfl,hd⟩
   have D:=Hd hd
   clear hd C
   go_wp2_with fail
   go_ret
   exact⟨rfl,D.out⟩
def Xin (k:Nat):ByteArray:=Xaq (if k=1 then Xhv else if k=2 then Xfr else if k=3 then Xhu else if k=4 then Xht else Xlt)
theorem Xpx (w:World) (k:Nat) (h1:1≤k) (h5:k≤5):Calls Tryz.prog 131 #[.int .i64 (k:Int)] w fun e w'=>e=.returned (.string (Xin k))∧Below w.heap.size w w':=by
 have e1:Xin 1=⟨#[99,97,110,99,101,108]⟩:=by decide
 have e2:Xin 2=⟨#[97,112,112,114,111,118,101]⟩:=by decide
 have e3:Xin 3=⟨#[100,101,102,105,110,101]⟩:=by decide
 have e4:Xin 4=⟨#[114,101,109,111,118,101]⟩:=by decide
 have e5:Xin 5=⟨#[114,101,107,101,121]⟩:=by decide
 rcases(by omega:k=1∨k=2∨k=3∨k=4∨k=5) with rfl|rfl|rfl|rfl|rfl
 all_goals
  first|rw[e1]|rw[e2]|rw[e3]|rw[e4]|rw[e5]
  clear e1 e2 e3 e4 e5
  go_enter Tryz.func131,Tryz.ntmps131
  go_wp2_with fail
  go_ret
  exact⟨rfl,by first|exact(Below.refl _ _).alloc (Nat.le_refl _) _|exact(Below.refl _ _).drew.alloc (Nat.le_refl _) _⟩
theorem Xf4 {P:Program} {fn:Func} {p u v:Tmp} {ty:TypeId} (h:fn.results=#[.tmp u,.cell p ty,.tmp v]) (tmps:Array Value) (w:World) (g:Nat) (t:TypeId) (cs:Array Value) (fr:Nat×Nat) (d:TypeDesc)
    (hp:tmps.getD p undef=.pointer (some ⟨g,0,none⟩)) (hg:w.heap[g]?=some (.cells cs t fr))
    (hu:P.underlying ty=some d) (hd:(match d with|.struct _|.array _ _=>true|_=>false)=true) (hi:(P.info? ty).map (·.size)=some cs.size):
    (results fn tmps).run P w=.ok (.tuple #[tmps.getD u undef,.agg cs,tmps.getD v undef]) w:=by
 have hp':tmps[p]?.getD undef=.pointer (some ⟨g,0,none⟩):=by simpa using hp
 simp[results,h,hp',asAddr,run_loadVar_row w g t ty cs fr d hg hu hd hi]
def Xfm (l:List Nat) (w:World) (e:Ending) (w':World):Prop:=
 ∃(h:Int) (cs:Array Value),e=.returned (.tuple #[.int .i64 h,.agg cs,.int .i64 ((Xf5 l:Nat):Int)])∧Cl 16 cs∧Below w.heap.size w w'
theorem Xpa {n:Nat} {cs:Array Value} (h:Cl n cs) (j:Nat) {u:Value} (hu:u.oneCell'=true):Cl n (cs.setIfInBounds j u):=by
 obtain⟨h2,h3⟩:=h
 refine⟨by simpa using h2,?_⟩
 rw[Array.all_eq_true'] at h3⊢
 intro x hx
 rw[Array.mem_iff_getElem] at hx
 obtain⟨i,hi,rfl⟩:=hx
 rw[Array.getElem_setIfInBounds (by simpa using hi)]
 split
 ·exact hu
 ·exact h3 _ (Array.getElem_mem _)
set_option maxHeartbeats 4000000 in
theorem Xwh (s:ByteArray) (w:World) (hs:s.size≤100000):
    Calls Tryz.prog 171 #[.string s] w (Xfm (bs s) w):=by
 obtain⟨zs,hzs⟩:∃zs,zs=idA Xdc:=⟨_,rfl⟩
 have HZS:=Hd hzs
 have ZCL:Hid (Cl 16 zs):=Hd (by rw[hzs];exact Xq7 Xe7)
 obtain⟨w0,hw0⟩:∃w0,w0=(w.alloc (.cells zs 22)).alloc (.cells zs 22):=⟨_,rfl⟩
 have START:Hid ((w.alloc (.cells #[.int .u8 0,.int .u8 0,.int .u8 0,.int .u8 0,.int .u8 0,.int .u8 0,.int .u8 0,.int .u8 0,.int .u8 0,.int .u8 0,.int .u8 0,.int .u8 0,.int .u8 0,.int .u8 0,.int .u8 0,.int .u8 0] 22)).alloc (.cells #[.int .u8 0,.int .u8 0,.int .u8 0,.int .u8 0,.int .u8 0,.int .u8 0,.int .u8 0,.int .u8 0,.int .u8 0,.int .u8 0,.int .u8 0,.int .u8 0,.int .u8 0,.int .u8 0,.int .u8 0,.int .u8 0] 22)=w0):=Hd (by rw[hw0,hzs];rfl)
 have R0:w0.heap[w.heap.size]?=some (.cells zs 22 (0,0)):=by rw[hw0];exact Xaf (heap_alloc_last w _)
 have L0:w0.heap[w.heap.size+1]?=some (.cells zs 22 (0,0)):=by rw[hw0];have:=heap_alloc_last (w.alloc (.cells zs 22)) (.cells zs 22);rw[World.size_alloc] at this;exact this
 have B0:Below w.heap.size w w0:=by rw[hw0];exact((Below.refl _ _).alloc (Nat.le_refl _) _).alloc (by simp) _
 have S0:w0.heap.size=w.heap.size+2:=by rw[hw0,World.size_alloc,World.size_alloc]
 have FIN:Hid (∀(w4:World) (cs:Array Value),Cl 16 cs→w4.heap[w.heap.size]?=some (.cells zs 22 (0,0))→Below w.heap.size w w4→
     (storeVar 22 ⟨w.heap.size,0,none⟩ (.agg cs)).run Tryz.prog w4=.ok () (w4.setRow w.heap.size cs)∧
     (∀tmps:Array Value,tmps.getD 3 undef=.pointer (some ⟨w.heap.size,0,none⟩)→(results Tryz.f171 tmps).run Tryz.prog (w4.setRow w.heap.size cs)=.ok (.tuple #[tmps.getD 2 undef,.agg cs,tmps.getD 4 undef]) (w4.setRow w.heap.size cs))∧
     Below w.heap.size w (w4.setRow w.heap.size cs)):=Hd (fun w4 cs hcl hg hb=>
  ⟨run_storeVar_row (P:=Tryz.prog) w4 w.heap.size _ 22 zs cs hg (by rw[hcl.1];exact Xcf) (by rw[hcl.1,ZCL.out.1]) hcl.2,
   fun tmps h2=>Xf4 Tryz.results171 tmps _ w.heap.size _ _ _ _ h2 (setRow_heap w4 w.heap.size zs cs _ _ hg) Tryz.underlying22 rfl (by rw[hcl.1];exact Xcf),
   below_setRow hb (Nat.le_refl _) cs⟩)
 obtain⟨xs,hxs⟩:∃x,x=(Xcj (bs s)).1:=⟨_,rfl⟩
 obtain⟨er,her⟩:∃x,x=(Xcj (bs s)).2.2:=⟨_,rfl⟩
 obtain⟨m,hm⟩:∃x,x=xs.length:=⟨_,rfl⟩
 obtain⟨R,hR⟩:∃x,x=Xf5 (bs s):=⟨_,rfl⟩
 have PF:Hid (R=if er≠0 then er else if m<17 then 4 else if 17<m then 5 else if xs.getD 0 0<1∨8<xs.getD 0 0 then 2 else 0):=Hd (by rw[hR,hm,hxs,her];rfl)
 have ANS:Hid (∀(h:Int) cs w',Cl 16 cs→Below w.heap.size w w'→Xfm (bs s) w (.returned (.tuple #[.int .i64 h,.agg cs,.int .i64 (R:Int)])) w'):=Hd (fun h cs w' hc hb=>⟨h,cs,by rw[hR],hc,hb⟩)
 have hml:m≤s.size:=by rw[hm,hxs,←Xaa s];exact Xs2 _
 have D:=Hd (Xmp s w0 (by omega))
 have HXS:Hid (xs=(Xcj (bs s)).1):=Hd hxs
 have HM:=Hd hm;have HER:=Hd her
 have HB0:=Hd B0;have HR0:=Hd R0;have HL0:=Hd L0;have HS0:=Hd S0
 have XLT:Hid (∀x∈xs,x<256):=Hd (by
  rw[hxs]
  by_cases h:(Xcj (bs s)).2.2=0
  ·exact(Xm4 _ h).2
  ·rw[Xfi _ h];intro x hx;cases hx)
 clear hxs her hm hR hw0 R0 L0 B0 hzs S0
 go_enter Tryz.func171,Tryz.ntmps171
 go_upto_region 2 with fail
 rw[START.out]
 clear START
 go_wp2_with fail
 refine D.out.mono ?_
 rintro e w1 ⟨v,rfl,hown,hb1⟩
 rw[←HXS.out,←HM.out] at hown
 rw[←HER.out]
 have HOWN:=Hd hown
 have R1:Hid (w1.heap[w.heap.size]?=some (.cells zs 22 (0,0))):=Hd ((hb1.block w.heap.size (by rw[HS0.out];omega)).trans HR0.out)
 have L1:Hid (w1.heap[w.heap.size+1]?=some (.cells zs 22 (0,0))):=Hd ((hb1.block (w.heap.size+1) (by rw[HS0.out];omega)).trans HL0.out)
 have B1:Hid (Below w.heap.size w w1):=Hd (HB0.out.trans (hb1.mono (by rw[HS0.out];omega)))
 obtain⟨a,cap,hv⟩:∃a cap,v=.slice a m cap:=by
  rcases hown.2 with⟨h1,h0⟩|⟨g,cap,cur,h1,_⟩
  ·exact⟨none,0,by rw[h1,h0]⟩
  ·exact⟨_,_,h1⟩
 subst hv
 have LZ:Hid (∀wx:World,wx.heap[w.heap.size+1]?=some (.cells zs 22 (0,0))→(loadVar 22 ⟨w.heap.size+1,0,none⟩).run Tryz.prog wx=.ok (.agg zs) wx):=Hd (fun wx h=>Xal wx (w.heap.size+1) 16 _ _ zs _ _ h rfl Tryz.underlying22 Xcf ZCL.out.1)
 have OTH:Hid (∀(wx:World) (cs:Array Value),(wx.setRow w.heap.size cs).heap[w.heap.size+1]?=wx.heap[w.heap.size+1]?):=Hd (fun wx cs=>setRow_other wx _ _ cs (by omega))
 clear D hown hb1 HR0 HL0 HB0
 by_cases e0:er=0
 ·have q0:((er:Int) !=0)=false:=Xat (by omega)
  by_cases h17:m<17
  ·have F:=Hd (show R=4 by rw[PF.out,if_neg (by omega),if_pos h17])
   have A4:Hid (∀(h:Int) (cs:Array Value) w',Cl 16 cs→Below w.heap.size w w'→Xfm (bs s) w (.returned (.tuple #[.int .i64 h,.agg cs,.int .i64 4])) w'):=Hd (fun h cs w' hc hb=>by have:=ANS.out h cs w' hc hb;rw[F.out] at this;exact this)
   go_upto_region 6 with fail
   obtain⟨wd,hwd⟩:∃wd,wd=w1.drew:=⟨_,rfl⟩
   have HS:(fun wx:World=>wx.heap[w.heap.size+1]?=some (.cells zs 22 (0,0))) wd:=by rw[hwd];exact L1.out
   have RD:wd.heap[w.heap.size]?=some (.cells zs 22 (0,0)):=by rw[hwd];exact R1.out
   have BD:Below w.heap.size w wd:=by rw[hwd];exact B1.out.drew
   obtain⟨ST,RES,BB⟩:=FIN.out wd zs ZCL.out RD BD
   have HS8:(fun wx:World=>wx.heap[w.heap.size+1]?=some (.cells zs 22 (0,0))) (wd.setRow w.heap.size zs):=(OTH.out wd zs).trans HS
   have RES:=Hd RES;have BB:=Hd BB
   refine wp_region_held (S:=fun wx:World=>wx.heap[w.heap.size+1]?=some (.cells zs 22 (0,0))) (by kernel_rfl) ?_
   change wpAnyH _ _ _ _ _ _ _ _ w1.drew
   rw[←hwd]
   clear hwd FIN
   refine Xad 0 (.agg zs) rfl (fun w' hw'=>Xaw (ty:=22) (x:=.tmp 5) (ad:=⟨w.heap.size+1,0,none⟩) rfl (by kernel_rfl) (LZ.out w' hw')) HS ?_
   refine Xa2 (i:=1) (v:=.int .i64 0) (by kernel_rfl) rfl rfl (Xap rfl (by kernel_rfl)) HS ?_
   refine Xba (i:=2) (by kernel_rfl) rfl rfl (Xax (t:=22) (ad:=⟨w.heap.size,0,none⟩) (u:=.agg zs) rfl (by kernel_rfl) (by kernel_rfl) ST) HS8 ?_
   refine Xa2 (i:=3) (v:=.int .i64 4) (by kernel_rfl) rfl rfl (Xap rfl (by kernel_rfl)) HS8 ?_
   refine wpAnyH_done (by kernel_rfl) ?_ _
   clear HS HS8 ST RD BD
   go_simp
   refine‹∀(a:Act) (w_1:World),_→_› _ _ ?_
   go_wp2_with fail
   exact bodyPost_ret (RES.out _ rfl) rfl (A4.out _ _ _ ZCL.out BB.out)
  by_cases h18:17<m
  ·have F:=Hd (show R=5 by rw[PF.out,if_neg (by omega),if_neg h17,if_pos h18])
   have A4:Hid (∀(h:Int) (cs:Array Value) w',Cl 16 cs→Below w.heap.size w w'→Xfm (bs s) w (.returned (.tuple #[.int .i64 h,.agg cs,.int .i64 5])) w'):=Hd (fun h cs w' hc hb=>by have:=ANS.out h cs w' hc hb;rw[F.out] at this;exact this)
   go_upto_region 8 with fail
   obtain⟨wd,hwd⟩:∃wd,wd=w1.drew:=⟨_,rfl⟩
   have HS:(fun wx:World=>wx.heap[w.heap.size+1]?=some (.cells zs 22 (0,0))) wd:=by rw[hwd];exact L1.out
   have RD:wd.heap[w.heap.size]?=some (.cells zs 22 (0,0)):=by rw[hwd];exact R1.out
   have BD:Below w.heap.size w wd:=by rw[hwd];exact B1.out.drew
   obtain⟨ST,RES,BB⟩:=FIN.out wd zs ZCL.out RD BD
   have HS8:(fun wx:World=>wx.heap[w.heap.size+1]?=some (.cells zs 22 (0,0))) (wd.setRow w.heap.size zs):=(OTH.out wd zs).trans HS
   have RES:=Hd RES;have BB:=Hd BB
   refine wp_region_held (S:=fun wx:World=>wx.heap[w.heap.size+1]?=some (.cells zs 22 (0,0))) (by kernel_rfl) ?_
   change wpAnyH _ _ _ _ _ _ _ _ w1.drew
   rw[←hwd]
   clear hwd FIN
   refine Xad 0 (.agg zs) rfl (fun w' hw'=>Xaw (ty:=22) (x:=.tmp 5) (ad:=⟨w.heap.size+1,0,none⟩) rfl (by kernel_rfl) (LZ.out w' hw')) HS ?_
   refine Xa2 (i:=1) (v:=.int .i64 0) (by kernel_rfl) rfl rfl (Xap rfl (by kernel_rfl)) HS ?_
   refine Xba (i:=2) (by kernel_rfl) rfl rfl (Xax (t:=22) (ad:=⟨w.heap.size,0,none⟩) (u:=.agg zs) rfl (by kernel_rfl) (by kernel_rfl) ST) HS8 ?_
   refine Xa2 (i:=3) (v:=.int .i64 5) (by kernel_rfl) rfl rfl (Xap rfl (by kernel_rfl)) HS8 ?_
   refine wpAnyH_done (by kernel_rfl) ?_ _
   clear HS HS8 ST RD BD
   go_simp
   refine‹∀(a:Act) (w_1:World),_→_› _ _ ?_
   go_wp2_with fail
   exact bodyPost_ret (RES.out _ rfl) rfl (A4.out _ _ _ ZCL.out BB.out)
  obtain rfl:m=17:=by omega
  obtain⟨g,cap',hg⟩:=ownsRow_succ HOWN.out
  cases hg
  have hgl:w0.heap.size≤g:=(HOWN.out.lt g rfl).1
  have CELL:Hid (∀j,j<17→w1.cell? ⟨g,j,none⟩=some (U (xs.getD j 0))):=Hd (fun j hj=>by
   rw[HOWN.out.cellAt j hj,List.getElem?_map]
   have hl:j<xs.length:=by rw[←HM.out];exact hj
   rw[List.getElem?_eq_getElem hl];simp[List.getD,hl])
  obtain⟨c,hc⟩:∃c,c=xs.getD 0 0:=⟨_,rfl⟩
  have c0:w1.cell? ⟨g,0,none⟩=some (.int .u8 (c:Int)):=by rw[CELL.out 0 (by omega),hc];rfl
  have hc2:c<256:=by rw[hc];have hl:0<xs.length:=by rw[←HM.out];omega
                     have:=XLT.out (xs[0]) (List.getElem_mem hl);simpa [List.getD,hl] using this
  have PG:Hid (R=if c<1∨8<c then 2 else 0):=Hd (by rw[PF.out,if_neg (by omega),if_neg h17,if_neg h18,hc])
  clear hc PF
  rcases(by omega:c<1∨8<c∨(1≤c∧c≤8)) with h|h|⟨h,h2⟩
  ·have F:=Hd (show R=2 by rw[PG.out,if_pos (.inl h)])
   have A4:Hid (∀(h:Int) (cs:Array Value) w',Cl 16 cs→Below w.heap.size w w'→Xfm (bs s) w (.returned (.tuple #[.int .i64 h,.agg cs,.int .i64 2])) w'):=Hd (fun h cs w' hc hb=>by have:=ANS.out h cs w' hc hb;rw[F.out] at this;exact this)
   go_upto_region 10 with fail
   obtain⟨wd,hwd⟩:∃wd,wd=w1.drew:=⟨_,rfl⟩
   have HS:(fun wx:World=>wx.heap[w.heap.size+1]?=some (.cells zs 22 (0,0))) wd:=by rw[hwd];exact L1.out
   have RD:wd.heap[w.heap.size]?=some (.cells zs 22 (0,0)):=by rw[hwd];exact R1.out
   have BD:Below w.heap.size w wd:=by rw[hwd];exact B1.out.drew
   obtain⟨ST,RES,BB⟩:=FIN.out wd zs ZCL.out RD BD
   have HS8:(fun wx:World=>wx.heap[w.heap.size+1]?=some (.cells zs 22 (0,0))) (wd.setRow w.heap.size zs):=(OTH.out wd zs).trans HS
   have RES:=Hd RES;have BB:=Hd BB
   refine wp_region_held (S:=fun wx:World=>wx.heap[w.heap.size+1]?=some (.cells zs 22 (0,0))) (by kernel_rfl) ?_
   change wpAnyH _ _ _ _ _ _ _ _ w1.drew
   rw[←hwd]
   clear hwd FIN
   refine Xad 0 (.agg zs) rfl (fun w' hw'=>Xaw (ty:=22) (x:=.tmp 5) (ad:=⟨w.heap.size+1,0,none⟩) rfl (by kernel_rfl) (LZ.out w' hw')) HS ?_
   refine Xa2 (i:=1) (v:=.int .i64 0) (by kernel_rfl) rfl rfl (Xap rfl (by kernel_rfl)) HS ?_
   refine Xba (i:=2) (by kernel_rfl) rfl rfl (Xax (t:=22) (ad:=⟨w.heap.size,0,none⟩) (u:=.agg zs) rfl (by kernel_rfl) (by kernel_rfl) ST) HS8 ?_
   refine Xa2 (i:=3) (v:=.int .i64 2) (by kernel_rfl) rfl rfl (Xap rfl (by kernel_rfl)) HS8 ?_
   refine wpAnyH_done (by kernel_rfl) ?_ _
   clear HS HS8 ST RD BD
   go_simp
   refine‹∀(a:Act) (w_1:World),_→_› _ _ ?_
   go_wp2_with fail
   exact bodyPost_ret (RES.out _ rfl) rfl (A4.out _ _ _ ZCL.out BB.out)
  ·have F:=Hd (show R=2 by rw[PG.out,if_pos (.inr h)])
   have A4:Hid (∀(h:Int) (cs:Array Value) w',Cl 16 cs→Below w.heap.size w w'→Xfm (bs s) w (.returned (.tuple #[.int .i64 h,.agg cs,.int .i64 2])) w'):=Hd (fun h cs w' hc hb=>by have:=ANS.out h cs w' hc hb;rw[F.out] at this;exact this)
   go_upto_region 10 with fail
   obtain⟨wd,hwd⟩:∃wd,wd=w1.drew:=⟨_,rfl⟩
   have HS:(fun wx:World=>wx.heap[w.heap.size+1]?=some (.cells zs 22 (0,0))) wd:=by rw[hwd];exact L1.out
   have RD:wd.heap[w.heap.size]?=some (.cells zs 22 (0,0)):=by rw[hwd];exact R1.out
   have BD:Below w.heap.size w wd:=by rw[hwd];exact B1.out.drew
   obtain⟨ST,RES,BB⟩:=FIN.out wd zs ZCL.out RD BD
   have HS8:(fun wx:World=>wx.heap[w.heap.size+1]?=some (.cells zs 22 (0,0))) (wd.setRow w.heap.size zs):=(OTH.out wd zs).trans HS
   have RES:=Hd RES;have BB:=Hd BB
   refine wp_region_held (S:=fun wx:World=>wx.heap[w.heap.size+1]?=some (.cells zs 22 (0,0))) (by kernel_rfl) ?_
   change wpAnyH _ _ _ _ _ _ _ _ w1.drew
   rw[←hwd]
   clear hwd FIN
   refine Xad 0 (.agg zs) rfl (fun w' hw'=>Xaw (ty:=22) (x:=.tmp 5) (ad:=⟨w.heap.size+1,0,none⟩) rfl (by kernel_rfl) (LZ.out w' hw')) HS ?_
   refine Xa2 (i:=1) (v:=.int .i64 0) (by kernel_rfl) rfl rfl (Xap rfl (by kernel_rfl)) HS ?_
   refine Xba (i:=2) (by kernel_rfl) rfl rfl (Xax (t:=22) (ad:=⟨w.heap.size,0,none⟩) (u:=.agg zs) rfl (by kernel_rfl) (by kernel_rfl) ST) HS8 ?_
   refine Xa2 (i:=3) (v:=.int .i64 2) (by kernel_rfl) rfl rfl (Xap rfl (by kernel_rfl)) HS8 ?_
   refine wpAnyH_done (by kernel_rfl) ?_ _
   clear HS HS8 ST RD BD
   go_simp
   refine‹∀(a:Act) (w_1:World),_→_› _ _ ?_
   go_wp2_with fail
   exact bodyPost_ret (RES.out _ rfl) rfl (A4.out _ _ _ ZCL.out BB.out)
  ·have F:=Hd (show R=0 by rw[PG.out,if_neg (by omega)])
   have A4:Hid (∀(h:Int) (cs:Array Value) w',Cl 16 cs→Below w.heap.size w w'→Xfm (bs s) w (.returned (.tuple #[.int .i64 h,.agg cs,.int .i64 0])) w'):=Hd (fun h cs w' hc hb=>by have:=ANS.out h cs w' hc hb;rw[F.out] at this;exact this)
   clear LZ PG
   go_wp2_with fail
   go_loopg [9] 16 (fun k i wr=>∃j:Nat,j≤16∧k=16-j∧i=.int .i64 (j:Int)∧Hid (∃cs,wr.heap[w.heap.size+1]?=some (.cells cs 22 (0,0))∧Cl 16 cs)∧Hid (wr.heap[w.heap.size]?=some (.cells zs 22 (0,0)))∧Hid (wr.heap[g]?=w1.heap[g]?)∧Hid (Below w.heap.size w wr))
   case atStart=>exact⟨0,by omega,rfl,rfl,Hd ⟨zs,L1.out,ZCL.out⟩,R1,Hd rfl,B1⟩
   case round=>
    obtain⟨j,hj,rfl,rfl,hcs,hres,hgg,hbel⟩:=hrel
    obtain⟨rs,hcell,hcl⟩:=hcs.out
    by_cases hlt:j<16
    ·obtain⟨z,hz⟩:∃z,z=xs.getD (j+1) 0:=⟨_,rfl⟩
     have cz:wr.cell? ⟨g,j+1,none⟩=some (.int .u8 (z:Int)):=by
      have h:=CELL.out (j+1) (by omega)
      rw[←hz] at h
      have e:wr.cell? ⟨g,j+1,none⟩=w1.cell? ⟨g,j+1,none⟩:=by unfold World.cell?;simp only[hgg.out]
      exact e.trans h
     obtain⟨u,hu⟩:∃u,wr.cell? ⟨w.heap.size+1,j,none⟩=some u:=⟨rs[j]'(by rw[hcl.1];omega),by rw[cell_of_row wr _ j _ _ _ hcell];simp[hcl.1,hlt]⟩
     have hfr:wr.frozen? ⟨w.heap.size+1,j,none⟩=false:=by simp[World.frozen?,hcell]
     have k0:(0:Int)≤(j:Int):=by omega
     have k1:(j:Int)<16:=by omega
     have k2:(0:Int)≤(j:Int)+1:=by omega
     have k3:(j:Int)+1<17:=by omega
     have v0:IntKind.i64.wrap (j:Int)=(j:Int):=IntWalk.i64_in _ (by omega)
     have v1:IntKind.i64.wrap ((j:Int)+1)=(j:Int)+1:=IntWalk.i64_in _ (by omega)
     have C2:Hid (∃cs,(wr.setCell ⟨w.heap.size+1,j,none⟩ (.int .u8 (z:Int))).heap[w.heap.size+1]?=some (.cells cs 22 (0,0))∧Cl 16 cs):=Hd ⟨_,Xd0 hcell j _,Xpa hcl j rfl⟩
     have R2:Hid ((wr.setCell ⟨w.heap.size+1,j,none⟩ (.int .u8 (z:Int))).heap[w.heap.size]?=some (.cells zs 22 (0,0))):=Hd (by rw[Below.heap_setCell _ _ _ _ (show w.heap.size≠w.heap.size+1 by omega)];exact hres.out)
     have G2:Hid ((wr.setCell ⟨w.heap.size+1,j,none⟩ (.int .u8 (z:Int))).heap[g]?=w1.heap[g]?):=Hd (by rw[Below.heap_setCell _ _ _ _ (show g≠w.heap.size+1 by have:=HS0.out;omega)];exact hgg.out)
     have BW:Hid (Below w.heap.size w (wr.setCell ⟨w.heap.size+1,j,none⟩ (.int .u8 (z:Int)))):=Hd (hbel.out.setCell (p:=⟨w.heap.size+1,j,none⟩) (Nat.le_succ _) _)
     clear hcs hcell hcl hz hgg hres hbel FIN CELL
     go_wp2_with fail
     go_roundg (16-(j+1))
     case measure=>omega
     case rel=>exact⟨j+1,by omega,rfl,by go_num,C2,R2,G2,BW⟩
    ·obtain rfl:j=16:=by omega
     go_upto_region 15 with fail
     obtain⟨wd,hwd⟩:∃wd,wd=wr.drew:=⟨_,rfl⟩
     have RL:=Hd hcl
     have cg:wd.cell? ⟨g,0,none⟩=some (.int .u8 (c:Int)):=by
      have e:wd.cell? ⟨g,0,none⟩=w1.cell? ⟨g,0,none⟩:=by
       have h:wd.heap[g]?=w1.heap[g]?:=by rw[hwd];exact hgg.out
       unfold World.cell?;simp only[h]
      exact e.trans c0
     have HS:(fun wx:World=>wx.cell? ⟨g,0,none⟩=some (.int .u8 (c:Int))∧wx.heap[w.heap.size+1]?=some (.cells rs 22 (0,0))) wd:=⟨cg,by rw[hwd];exact hcell⟩
     have RD:wd.heap[w.heap.size]?=some (.cells zs 22 (0,0)):=by rw[hwd];exact hres.out
     have BD:Below w.heap.size w wd:=by rw[hwd];exact hbel.out.drew
     obtain⟨ST,RES,BB⟩:=FIN.out wd rs RL.out RD BD
     have HS8:(fun wx:World=>wx.cell? ⟨g,0,none⟩=some (.int .u8 (c:Int))∧wx.heap[w.heap.size+1]?=some (.cells rs 22 (0,0))) (wd.setRow w.heap.size rs):=⟨by
      have e:(wd.setRow w.heap.size rs).cell? ⟨g,0,none⟩=wd.cell? ⟨g,0,none⟩:=by
       have h:(wd.setRow w.heap.size rs).heap[g]?=wd.heap[g]?:=setRow_other wd _ _ rs (by have:=HS0.out;omega)
       unfold World.cell?;simp only[h]
      exact e.trans cg,(OTH.out wd rs).trans HS.2⟩
     have RES:=Hd RES;have BB:=Hd BB
     have LZ:Hid (∀wx:World,wx.heap[w.heap.size+1]?=some (.cells rs 22 (0,0))→(loadVar 22 ⟨w.heap.size+1,0,none⟩).run Tryz.prog wx=.ok (.agg rs) wx):=Hd (fun wx h=>Xal wx (w.heap.size+1) 16 _ _ rs _ _ h rfl Tryz.underlying22 Xcf RL.out.1)
     have vc:IntKind.i64.wrap (c:Int)=(c:Int):=IntWalk.i64_in _ (by omega)
     refine wp_region_held (S:=fun wx:World=>wx.cell? ⟨g,0,none⟩=some (.int .u8 (c:Int))∧wx.heap[w.heap.size+1]?=some (.cells rs 22 (0,0))) (by kernel_rfl) ?_
     change wpAnyH _ _ _ _ _ _ _ _ wr.drew
     rw[←hwd]
     clear hwd FIN hcell hcl hcs hgg hres hbel CELL c0 cg
     refine Xad 0 (.slice (some ⟨g,0,none⟩) 17 cap) rfl (fun _ _=>by go_simp) HS ?_
     refine Xad 1 (.pointer (some ⟨g,0,none⟩)) rfl (fun _ _=>by go_simp) HS ?_
     refine Xad 2 (.int .u8 (c:Int)) rfl (fun w' hw'=>by obtain⟨c3,c4⟩:=hw';go_simp) HS ?_
     refine Xad 3 (.int .i64 (c:Int)) rfl (fun _ _=>by go_simp) HS ?_
     refine Xad 4 (.agg rs) rfl (fun w' hw'=>Xaw (ty:=22) (x:=.tmp 5) (ad:=⟨w.heap.size+1,0,none⟩) rfl (by kernel_rfl) (LZ.out w' hw'.2)) HS ?_
     refine Xa2 (i:=5) (v:=.int .i64 (c:Int)) (by kernel_rfl) rfl rfl (Xap rfl (by kernel_rfl)) HS ?_
     refine Xba (i:=6) (by kernel_rfl) rfl rfl (Xax (t:=22) (ad:=⟨w.heap.size,0,none⟩) (u:=.agg rs) rfl (by kernel_rfl) (by kernel_rfl) ST) HS8 ?_
     refine Xa2 (i:=7) (v:=.int .i64 0) (by kernel_rfl) rfl rfl (Xap rfl (by kernel_rfl)) HS8 ?_
     refine wpAnyH_done (by kernel_rfl) ?_ _
     clear HS HS8 ST RD BD
     go_simp
     refine‹∀(a:Act) (w_1:World),_→_› _ _ ?_
     go_wp2_with fail
     exact bodyPost_ret (RES.out _ rfl) rfl (A4.out _ _ _ RL.out BB.out)
 ·have q0:((er:Int) !=0)=true:=Xam (by omega)
  have F:=Hd (show R=er by rw[PF.out,if_pos e0])
  have A4:Hid (∀(h:Int) (cs:Array Value) w',Cl 16 cs→Below w.heap.size w w'→Xfm (bs s) w (.returned (.tuple #[.int .i64 h,.agg cs,.int .i64 (er:Int)])) w'):=Hd (fun h cs w' hc hb=>by have:=ANS.out h cs w' hc hb;rw[F.out] at this;exact this)
  go_upto_region 4 with fail
  obtain⟨wd,hwd⟩:∃wd,wd=w1.drew:=⟨_,rfl⟩
  have HS:(fun wx:World=>wx.heap[w.heap.size+1]?=some (.cells zs 22 (0,0))) wd:=by rw[hwd];exact L1.out
  have RD:wd.heap[w.heap.size]?=some (.cells zs 22 (0,0)):=by rw[hwd];exact R1.out
  have BD:Below w.heap.size w wd:=by rw[hwd];exact B1.out.drew
  obtain⟨ST,RES,BB⟩:=FIN.out wd zs ZCL.out RD BD
  have HS8:(fun wx:World=>wx.heap[w.heap.size+1]?=some (.cells zs 22 (0,0))) (wd.setRow w.heap.size zs):=(OTH.out wd zs).trans HS
  have RES:=Hd RES;have BB:=Hd BB
  refine wp_region_held (S:=fun wx:World=>wx.heap[w.heap.size+1]?=some (.cells zs 22 (0,0))) (by kernel_rfl) ?_
  change wpAnyH _ _ _ _ _ _ _ _ w1.drew
  rw[←hwd]
  clear hwd FIN
  refine Xad 0 (.agg zs) rfl (fun w' hw'=>Xaw (ty:=22) (x:=.tmp 5) (ad:=⟨w.heap.size+1,0,none⟩) rfl (by kernel_rfl) (LZ.out w' hw')) HS ?_
  refine Xad 1 (.int .i64 (er:Int)) rfl (fun _ _=>by go_simp) HS ?_
  refine Xa2 (i:=2) (v:=.int .i64 0) (by kernel_rfl) rfl rfl (Xap rfl (by kernel_rfl)) HS ?_
  refine Xba (i:=3) (by kernel_rfl) rfl rfl (Xax (t:=22) (ad:=⟨w.heap.size,0,none⟩) (u:=.agg zs) rfl (by kernel_rfl) (by kernel_rfl) ST) HS8 ?_
  refine Xa2 (i:=4) (v:=.int .i64 (er:Int)) (by kernel_rfl) rfl rfl (Xap rfl (by kernel_rfl)) HS8 ?_
  refine wpAnyH_done (by kernel_rfl) ?_ _
  clear HS HS8 ST RD BD
  go_simp
  refine‹∀(a:Act) (w_1:World),_→_› _ _ ?_
  go_wp2_with fail
  exact bodyPost_ret (RES.out _ rfl) rfl (A4.out _ _ _ ZCL.out BB.out)
end Go.Proofs.YtohmdledkhgdaaaGreatDoor
/- Plain: the words of a command, one after the other, as the reference's Parse meets them. -/
namespace Go.Proofs.YtohmdledkhgdaaaGreatDoor
set_option linter.unusedVariables false
theorem Xv5 (c:Nat):∀l:List Nat,spl c l=(l.takeWhile fun x=>!decide (x=c))::(match l.dropWhile fun x=>!decide (x=c) with|[]=>[]|_::u=>spl c u)
 |[]=>rfl
 |x::t=>by
  simp only[spl]
  by_cases h:x=c
  ·rw[if_pos h,List.takeWhile_cons,List.dropWhile_cons];simp[h]
  ·rw[if_neg h,Xv5 c t,List.takeWhile_cons,List.dropWhile_cons];simp[h]
def rst (t:List Nat):List (List Nat):=match t with
 |[]=>[]
 |_::u=>spl 32 u
def Xzy (a:Nat) (x:List Nat):Nat:=if a=0 then Xhe x else if a=1 then Xhw x else if a=2 then Xe1 0 1000000 x else if a=3 then(if x=Xgj∨x=Xh4 then 0 else 3) else if a=4 then Xcy x else if a=5 then Xe1 1 1000 x else Xf5 x
def Xck (k:Nat):List Nat:=if k=1 then[0] else if k=2 then[0,1] else if k=3 then[1,2,3,4] else if k=4 then[1,2] else[5,6]
def Yi4 (k:Nat) (t:List Nat):Nat:=if k=3 then Xd2 t else fin t
def chF (k:Nat):List Nat→Bool→List Nat→Nat
 |[],_,t=>Yi4 k t
 |a::r,m,t=>if a=4∧m=false then chF k r m t else nxt t fun x t=>fe (Xzy a x) (chF k r (if a=3 then decide (x=Xh4) else m) t)
def Xgr (x:List Nat):Nat:=if x=Xlt then 5 else if x=Xht then 4 else if x=Xhu then 3 else if x=Xfr then 2 else if x=Xhv then 1 else 0
theorem Xjt {t:List Nat} {f g:List Nat→List Nat→Nat} (h:∀x t,f x t=g x t):nxt t f=nxt t g:=by
 unfold nxt;split
 ·rfl
 ·exact h _ _
theorem Yfz (k t:List Nat):Xu5 k t=if Xgr k=0 then 11 else chF (Xgr k) (Xck (Xgr k)) false t:=by
 unfold Xu5 Xgr
 by_cases h5:k=Xlt
 ·subst h5;rfl
 by_cases h4:k=Xht
 ·subst h4;rfl
 by_cases h3:k=Xhu
 ·subst h3
  rw[if_neg (by decide),if_neg (by decide),if_pos rfl]
  show _=nxt t fun g t=>fe (Xhw g) (nxt t fun v t=>fe (Xe1 0 1000000 v) (nxt t fun m t=>fe (if m=Xgj∨m=Xh4 then 0 else 3) (if 4=4∧decide (m=Xh4)=false then Xd2 t else nxt t fun a t=>fe (Xcy a) (Xd2 t))))
  refine Xjt fun g t=>?_
  refine congrArg (fe (Xhw g)) (Xjt fun v t=>?_)
  refine congrArg (fe (Xe1 0 1000000 v)) (Xjt fun m t=>?_)
  by_cases ho:m=Xgj
  ·subst ho;rfl
  ·by_cases hm:m=Xh4
   ·subst hm;rfl
   ·simp[ho,hm,fe]
 by_cases h2:k=Xfr
 ·subst h2;rfl
 by_cases h1:k=Xhv
 ·subst h1;rfl
 rw[if_neg h1,if_neg h2,if_neg h3,if_neg h4,if_neg h5,if_neg h5,if_neg h4,if_neg h3,if_neg h2,if_neg h1]
 rfl
theorem Xr5 (s:List Nat) (at':Nat) (x:List Nat) (r:List (List Nat)) (h:rst (s.drop at')=x::r):
    at'<s.length∧(∃u,s.drop at'=u∧u≠[]∧x=(u.drop 1).takeWhile (fun c=>!decide (c=32))∧s.drop (at'+1+x.length)=(u.drop 1).dropWhile (fun c=>!decide (c=32)))∧rst (s.drop (at'+1+x.length))=r∧at'+1+x.length≤s.length:=by
 generalize hu:s.drop at'=u at h⊢
 match u,h with
 |[],h=>simp[rst] at h
 |y::u,h=>
  have hl:at'<s.length:=by
   have:=congrArg List.length hu
   simp at this;omega
  simp only[rst] at h
  rw[Xv5] at h
  injection h with h1 h2
  have e:u=x++u.dropWhile (fun c=>!decide (c=32)):=by rw[←h1];exact(List.takeWhile_append_dropWhile).symm
  have e2:s.drop (at'+1+x.length)=u.dropWhile (fun c=>!decide (c=32)):=by
   rw[←List.drop_drop,←List.drop_drop,hu]
   show List.drop x.length u=_
   rw[e]
   simp
   rw[←e]
  refine⟨hl,⟨_,rfl,by simp,h1.symm,e2⟩,?_,?_⟩
  ·rw[e2];exact h2
  ·have:=congrArg List.length e
   have h3:=congrArg List.length hu
   simp at this h3
   omega
theorem Yf1 {k:Nat} {r:List Nat} {t:List Nat}:chF k (4::r) false t=chF k r false t:=by simp[chF]
theorem Ych {k a:Nat} {r:List Nat} {m:Bool} (h:¬(a=4∧m=false)):chF k (a::r) m []=4:=by simp only[chF];rw[if_neg h];rfl
theorem Yf0 {k a:Nat} {r:List Nat} {m:Bool} {s:List Nat} {at':Nat} {x:List Nat} {ws:List (List Nat)} (h:¬(a=4∧m=false)) (hr:rst (s.drop at')=x::ws):
    chF k (a::r) m (s.drop at')=fe (Xzy a x) (chF k r (if a=3 then decide (x=Xh4) else m) (s.drop (at'+1+x.length))):=by
 obtain⟨_,⟨u,h1,h2,h3,h4⟩,_,_⟩:=Xr5 s at' x ws hr
 rw[h1,h4]
 match u,h2 with
 |y::u,_=>
  simp only[chF]
  rw[if_neg h]
  simp only[nxt]
  simp only[List.drop_succ_cons,List.drop_zero] at h3⊢
  rw[←h3]
theorem Xvw (p:Nat→Bool):∀s:List Nat,s.drop (s.takeWhile p).length=s.dropWhile p
 |[]=>rfl
 |x::s=>by
  simp only[List.takeWhile_cons,List.dropWhile_cons]
  split
  ·simpa using Xvw p s
  ·rfl
theorem Xu6 (s:List Nat) (hl:s.length≤1000):∃x ws,spl 32 s=x::ws∧x=s.takeWhile (fun c=>!decide (c=32))∧rst (s.drop x.length)=ws∧x.length≤s.length∧Xd4 s=if Xgr x=0 then 11 else chF (Xgr x) (Xck (Xgr x)) false (s.drop x.length):=by
 refine⟨_,_,Xv5 32 s,rfl,?_⟩
 have e:s=s.takeWhile (fun c=>!decide (c=32))++s.dropWhile (fun c=>!decide (c=32)):=(List.takeWhile_append_dropWhile).symm
 have e2:=Xvw (fun c=>!decide (c=32)) s
 rw[e2]
 refine⟨rfl,?_,?_⟩
 ·have:=congrArg List.length e;rw[List.length_append] at this;omega
 ·unfold Xd4;rw[if_neg (by omega),Yfz]
end Go.Proofs.YtohmdledkhgdaaaGreatDoor
/- bulletinref17.word: a command of the reference in a block; the words of the sorts group, version, number, mode. -/
namespace Go.Proofs.YtohmdledkhgdaaaGreatDoor
open Go.RowKit
set_option linter.unusedVariables false
set_option maxRecDepth 100000
theorem Xbo:(Tryz.prog.info? 140).map (·.size)=some 56:=by kernel_rfl
structure RC (cs:Array Value) (k:Nat) (m mo:Bool):Prop where
 cl:Cl 56 cs
 kind:cs[0]?=some (.int .i64 (k:Int))
 mod:cs[35]?=some (.bool m)
 mods:mo=true→cs[36]?=some (.slice none 0 0)
theorem RC.set {cs:Array Value} {k:Nat} {m mo:Bool} (h:RC cs k m mo) (j:Nat) {u:Value} (hu:u.oneCell'=true) (h0:j≠0) (h1:j≠35) (h2:j≠36):RC (cs.setIfInBounds j u) k m mo:=
 ⟨Xpa h.cl j hu,by rw[Array.getElem?_setIfInBounds_ne h0];exact h.kind,by rw[Array.getElem?_setIfInBounds_ne h1];exact h.mod,fun e=>by rw[Array.getElem?_setIfInBounds_ne h2];exact h.mods e⟩
theorem RC.setM {cs:Array Value} {k:Nat} {m mo:Bool} (h:RC cs k m mo) (b:Bool):RC (cs.setIfInBounds 35 (.bool b)) k b mo:=
 ⟨Xpa h.cl 35 rfl,by rw[Array.getElem?_setIfInBounds_ne (by omega)];exact h.kind,by rw[Array.getElem?_setIfInBounds_self_of_lt (by rw[h.cl.1];omega)],fun e=>by rw[Array.getElem?_setIfInBounds_ne (by omega)];exact h.mods e⟩
theorem RC.setL {cs:Array Value} {k:Nat} {m mo:Bool} (h:RC cs k m mo) {u:Value} (hu:u.oneCell'=true):RC (cs.setIfInBounds 36 u) k m false:=
 ⟨Xpa h.cl 36 hu,by rw[Array.getElem?_setIfInBounds_ne (by omega)];exact h.kind,by rw[Array.getElem?_setIfInBounds_ne (by omega)];exact h.mod,fun e=>by cases e⟩
theorem RC.weak {cs:Array Value} {k:Nat} {m mo:Bool} (h:RC cs k m mo):RC cs k m false:=⟨h.cl,h.kind,h.mod,fun e=>by cases e⟩
def RB (w:World) (p k:Nat) (m mo:Bool):Prop:=∃cs,w.heap[p]?=some (.cells cs 140 (0,0))∧RC cs k m mo
theorem RB.lt {w:World} {p k:Nat} {m mo:Bool} (h:RB w p k m mo):p<w.heap.size:=by obtain⟨cs,h,_⟩:=h;exact lt_of_block h
theorem RB.on {w w':World} {p k:Nat} {m mo:Bool} (h:RB w p k m mo) (hb:Below w.heap.size w w'):RB w' p k m mo:=by
 obtain⟨cs,h1,h2⟩:=h;exact⟨cs,(hb.block p (lt_of_block h1)).trans h1,h2⟩
theorem RB.drew {w:World} {p k:Nat} {m mo:Bool} (h:RB w p k m mo):RB w.drew p k m mo:=h
theorem RB.cell {w:World} {p k:Nat} {m mo:Bool} (h:RB w p k m mo) {j:Nat} (hj:j<56):∃u,w.cell? ⟨p,j,none⟩=some u∧w.frozen? ⟨p,j,none⟩=false:=by
 obtain⟨cs,h1,h2⟩:=h
 exact⟨cs[j]'(by rw[h2.cl.1];omega),by rw[cell_of_row w p j _ _ _ h1];simp[h2.cl.1,hj],by simp[World.frozen?,h1]⟩
theorem RB.kind {w:World} {p k:Nat} {m mo:Bool} (h:RB w p k m mo):w.cell? ⟨p,0,none⟩=some (.int .i64 (k:Int)):=by
 obtain⟨cs,h1,h2⟩:=h;rw[cell_of_row w p 0 _ _ _ h1];exact h2.kind
theorem RB.modc {w:World} {p k:Nat} {m mo:Bool} (h:RB w p k m mo):w.cell? ⟨p,35,none⟩=some (.bool m):=by
 obtain⟨cs,h1,h2⟩:=h;rw[cell_of_row w p 35 _ _ _ h1];exact h2.mod
theorem RB.modsc {w:World} {p k:Nat} {m:Bool} (h:RB w p k m true):w.cell? ⟨p,36,none⟩=some (.slice none 0 0):=by
 obtain⟨cs,h1,h2⟩:=h;rw[cell_of_row w p 36 _ _ _ h1];exact h2.mods rfl
theorem RB.set {w:World} {p k:Nat} {m mo:Bool} (h:RB w p k m mo) (j:Nat) {u:Value} (hu:u.oneCell'=true) (h0:j≠0) (h1:j≠35) (h2:j≠36) (hj:j<56):RB (w.setCell ⟨p,j,none⟩ u) p k m mo∧(w.setCell ⟨p,j,none⟩ u).cell? ⟨p,j,none⟩=some u:=by
 obtain⟨cs,h3,h4⟩:=h
 have hb:=Xd0 h3 j u
 exact⟨⟨_,hb,h4.set j hu h0 h1 h2⟩,by rw[cell_of_row _ p j _ _ _ hb];exact Array.getElem?_setIfInBounds_self_of_lt (by rw[h4.cl.1];omega)⟩
theorem RB.setM {w:World} {p k:Nat} {m mo:Bool} (h:RB w p k m mo) (b:Bool):RB (w.setCell ⟨p,35,none⟩ (.bool b)) p k b mo∧(w.setCell ⟨p,35,none⟩ (.bool b)).cell? ⟨p,35,none⟩=some (.bool b):=by
 obtain⟨cs,h3,h4⟩:=h
 have hb:=Xd0 h3 35 (.bool b)
 exact⟨⟨_,hb,h4.setM b⟩,by rw[cell_of_row _ p 35 _ _ _ hb];exact Array.getElem?_setIfInBounds_self_of_lt (by rw[h4.cl.1];omega)⟩
theorem RB.setL {w:World} {p k:Nat} {m mo:Bool} (h:RB w p k m mo) {u:Value} (hu:u.oneCell'=true):RB (w.setCell ⟨p,36,none⟩ u) p k m false∧(w.setCell ⟨p,36,none⟩ u).cell? ⟨p,36,none⟩=some u:=by
 obtain⟨cs,h3,h4⟩:=h
 have hb:=Xd0 h3 36 u
 exact⟨⟨_,hb,h4.setL hu⟩,by rw[cell_of_row _ p 36 _ _ _ hb];exact Array.getElem?_setIfInBounds_self_of_lt (by rw[h4.cl.1];omega)⟩
theorem RB.setCells {p k:Nat} {m mo:Bool}:∀(vs:List Value) (o:Nat) (w:World),RB w p k m mo→(∀v∈vs,v.oneCell'=true)→(1≤o∧o+vs.length≤35∨37≤o∧o+vs.length≤56)→RB (w.setCells p o vs) p k m mo∧Fr1 p w (w.setCells p o vs)
 |[],o,w,h,_,_=>⟨h,Fr1.refl _ _⟩
 |v::r,o,w,h,hv,ho=>by
  have hl:(v::r).length=r.length+1:=rfl
  obtain⟨h1,h2⟩:=RB.setCells r (o+1) _ (h.set o (hv v (List.mem_cons_self ..)) (by omega) (by omega) (by omega) (by omega)).1 (fun x hx=>hv x (List.mem_cons_of_mem _ hx)) (by omega)
  exact⟨h1,(Fr1.setC v).trans h2⟩
theorem RB.store {w:World} {p k:Nat} {m mo:Bool} (h:RB w p k m mo) (o n:Nat) (hn:1≤o∧o+n≤35∨37≤o∧o+n≤56) (ty:TypeId) {cs:Array Value} (hc:Cl n cs) (hi:(Tryz.prog.info? ty).map (·.size)=some n):
    (storeVar ty ⟨p,o,none⟩ (.agg cs)).run Tryz.prog w=.ok () (w.setCells p o cs.toList)∧RB (w.setCells p o cs.toList) p k m mo∧Fr1 p w (w.setCells p o cs.toList)∧(∀j u,cs[j]?=some u→(w.setCells p o cs.toList).cell? ⟨p,o+j,none⟩=some u):=by
 have ht:w.there p o cs.size:=fun j hj=>by
  obtain⟨u,h1,h2⟩:=h.cell (j:=o+j) (by rw[hc.1] at hj;omega)
  exact⟨by rw[h1];rfl,h2⟩
 obtain⟨h1,h2⟩:=RB.setCells cs.toList o w h (Xpb hc) (by rw[Array.length_toList,hc.1];omega)
 exact⟨run_storeVar_mid w p o ty cs ht (by rw[hc.1];exact hi) hc.2,h1,h2,fun j u hu=>
  World.rangeAt_setCells_same w p o cs.toList (by simpa using ht) j u (by simpa using hu)⟩
def Xbk (k a:Nat) (m:Bool) (x:List Nat) (w:World) (e:Ending) (w':World):Prop:=
 ∃cs',e=.returned (.tuple #[.agg cs',.int .i64 ((Xzy a x:Nat):Int)])∧RC cs' k (if a=3 then decide (x=Xh4) else m) (decide (a≠4))∧Below w.heap.size w w'
def z17:Array Value:=#[.int .i64 0,.int .u8 0,.int .u8 0,.int .u8 0,.int .u8 0,.int .u8 0,.int .u8 0,.int .u8 0,.int .u8 0,.int .u8 0,.int .u8 0,.int .u8 0,.int .u8 0,.int .u8 0,.int .u8 0,.int .u8 0,.int .u8 0,.int .u8 0,.int .u8 0,.int .u8 0,.int .u8 0,.int .u8 0,.int .u8 0,.int .u8 0,.int .u8 0,.int .u8 0,.int .u8 0,.int .u8 0,.int .u8 0,.int .u8 0,.int .u8 0,.int .u8 0,.int .u8 0,.string ⟨#[]⟩,.int .i64 0,.bool false,.slice none 0 0,.string ⟨#[]⟩,.int .i64 0,.int .i64 0,.int .u8 0,.int .u8 0,.int .u8 0,.int .u8 0,.int .u8 0,.int .u8 0,.int .u8 0,.int .u8 0,.int .u8 0,.int .u8 0,.int .u8 0,.int .u8 0,.int .u8 0,.int .u8 0,.int .u8 0,.int .u8 0]
theorem cl_z17:Cl 56 z17:=⟨by kernel_rfl,by kernel_rfl⟩
theorem Yg9:RC z17 0 false true:=⟨cl_z17,by kernel_rfl,by kernel_rfl,fun _=>by kernel_rfl⟩
theorem Xep (w:World) (cs:Array Value) {k:Nat} {m mo:Bool} (h:RC cs k m mo) (w0:World) (hw:w0=(w.alloc (.cells cs 140)).alloc (.cells z17 140)):
    RB w0 w.heap.size k m mo∧w0.heap[w.heap.size+1]?=some (.cells z17 140 (0,0))∧Below w.heap.size w w0∧w0.heap.size=w.heap.size+2:=by
 subst hw
 refine⟨⟨cs,Xaf (heap_alloc_last w _),h⟩,?_,((Below.refl _ _).alloc (Nat.le_refl _) _).alloc (by simp) _,by simp⟩
 have:=heap_alloc_last (w.alloc (.cells cs 140)) (.cells z17 140);rw[World.size_alloc] at this;exact this
theorem Xeb (w wx:World) {k:Nat} {m mo:Bool} (h:RB wx w.heap.size k m mo) (hq:wx.heap[w.heap.size+1]?=some (.cells z17 140 (0,0))) (hb:Below w.heap.size w wx):
    ∃cs',RC cs' k m mo∧(loadVar 140 ⟨w.heap.size,0,none⟩).run Tryz.prog wx=.ok (.agg cs') wx∧(storeVar 140 ⟨w.heap.size+1,0,none⟩ (.agg cs')).run Tryz.prog wx=.ok () (wx.setRow (w.heap.size+1) cs')∧
     (∀tmps:Array Value,tmps.getD 6 undef=.pointer (some ⟨w.heap.size+1,0,none⟩)→(results Tryz.f133 tmps).run Tryz.prog (wx.setRow (w.heap.size+1) cs')=.ok (.tuple #[.agg cs',tmps.getD 7 undef]) (wx.setRow (w.heap.size+1) cs'))∧Below w.heap.size w (wx.setRow (w.heap.size+1) cs'):=by
 obtain⟨cs',h1,h2⟩:=h
 exact⟨cs',h2,Xal wx w.heap.size 56 _ _ cs' _ _ h1 rfl Tryz.underlying140 Xbo h2.cl.1,
  run_storeVar_row (P:=Tryz.prog) wx (w.heap.size+1) _ 140 z17 cs' hq (by rw[h2.cl.1];exact Xbo) (by rw[h2.cl.1,cl_z17.1]) h2.cl.2,
  fun tmps ht=>Xa5 Tryz.results133 tmps _ (w.heap.size+1) _ _ _ _ ht (setRow_heap wx (w.heap.size+1) z17 cs' _ _ hq) Tryz.underlying140 rfl (by rw[h2.cl.1];exact Xbo),
  below_setRow hb (Nat.le_succ _) cs'⟩
theorem Xn0 {w wx:World} {k:Nat} {m mo:Bool} (h:RB wx w.heap.size k m mo) (hq:wx.heap[w.heap.size+1]?=some (.cells z17 140 (0,0))) (hb:Below w.heap.size w wx) (j:Nat) (u:Value):
    (wx.setCell ⟨w.heap.size,j,none⟩ u).heap[w.heap.size+1]?=some (.cells z17 140 (0,0))∧Below w.heap.size w (wx.setCell ⟨w.heap.size,j,none⟩ u):=
 ⟨by rw[Below.heap_setCell _ _ _ _ (show w.heap.size+1≠w.heap.size by omega)];exact hq,hb.setCell (p:=⟨w.heap.size,j,none⟩) (Nat.le_refl _) _⟩
set_option maxHeartbeats 4000000 in
theorem Xpu (w:World) (cs:Array Value) (k:Nat) (m:Bool) (x:ByteArray) (hs:x.size≤10000000) (h:RC cs k m true):
    Calls Tryz.prog 133 #[.agg cs,.string ⟨#[103,114,111,117,112]⟩,.string x] w (Xbk k 1 m (bs x) w):=by
 obtain⟨w0,hw0⟩:∃w0,w0=(w.alloc (.cells cs 140)).alloc (.cells z17 140):=⟨_,rfl⟩
 obtain⟨r0,q0,b0,s0⟩:=Xep w cs h w0 hw0
 obtain⟨u,cu,fu⟩:=r0.cell (show 33<56 by omega)
 obtain⟨r1,_⟩:=r0.set 33 (u:=.string x) rfl (by omega) (by omega) (by omega) (by omega)
 obtain⟨q1,b1⟩:=Xn0 r0 q0 b0 33 (.string x)
 obtain⟨T,hT⟩:∃T,T=Xbg (bs x):=⟨_,rfl⟩
 have CK:=Hd (fun w=>Xjm x w hs)
 rw[←hT] at CK
 have R1:=Hd r1;have Q1:=Hd q1;have B1:=Hd b1
 have HW:=Hd hw0
 have POST:Hid (∀cs' w',RC cs' k m true→Below w.heap.size w w'→Xbk k 1 m (bs x) w (.returned (.tuple #[.agg cs',.int .i64 ((if T=0 then 0 else 12:Nat):Int)])) w'):=Hd (fun cs' w' h1 h2=>⟨cs',by rw[hT];rfl,h1,h2⟩)
 clear hw0 h r0 q0 b0 s0 r1 q1 b1 hT
 go_enter Tryz.func133,Tryz.ntmps133
 go_upto_region 1 with fail
 have W':=HW.out
 unfold z17 at W'
 rw[←W']
 clear W' HW
 go_wp2_with fail
 obtain⟨w1,hw1⟩:∃w1,w1=w0.setCell ⟨w.heap.size,33,none⟩ (.string x):=⟨_,rfl⟩
 rw[←hw1] at R1 Q1 B1⊢
 clear hw1 cu fu
 refine(CK.out w1).mono ?_
 rintro e w2 ⟨rfl,hb2⟩
 obtain⟨cs',rc,ld,st,rs,bb⟩:=Xeb w w2 (R1.out.on hb2) ((hb2.block _ (lt_of_block Q1.out)).trans Q1.out) (B1.out.trans (hb2.mono B1.out.size))
 have RCX:=Hd rc;have LD:=Hd ld;have ST:=Hd st;have RES:=Hd rs;have BB:=Hd bb
 clear rc ld st rs bb hb2 CK R1 Q1 B1
 by_cases h0:T=0
 ·have q1:((T:Int) !=0)=false:=Xat (by omega)
  have A0:Hid (Xbk k 1 m (bs x) w (.returned (.tuple #[.agg cs',.int .i64 0])) (w2.setRow (w.heap.size+1) cs')):=Hd (by have:=POST.out cs' _ RCX.out BB.out;rw[if_pos h0] at this;exact this)
  clear h0 POST
  go_wp2_with (first
   |((with_reducible refine Xac 140 rfl _ rfl ?_);refine⟨_,_,rfl,LD.out,?_⟩)
   |((with_reducible refine Xab 140 rfl _ _ rfl ?_);refine⟨_,_,_,rfl,rfl,ST.out,?_⟩))
  exact bodyPost_ret (RES.out _ rfl) rfl A0.out
 ·have q1:((T:Int) !=0)=true:=Xam (by omega)
  have A0:Hid (Xbk k 1 m (bs x) w (.returned (.tuple #[.agg cs',.int .i64 12])) (w2.setRow (w.heap.size+1) cs')):=Hd (by have:=POST.out cs' _ RCX.out BB.out;rw[if_neg h0] at this;exact this)
  clear h0 POST
  go_wp2_with (first
   |((with_reducible refine Xac 140 rfl _ rfl ?_);refine⟨_,_,rfl,LD.out,?_⟩)
   |((with_reducible refine Xab 140 rfl _ _ rfl ?_);refine⟨_,_,_,rfl,rfl,ST.out,?_⟩))
  exact bodyPost_ret (RES.out _ rfl) rfl A0.out
end Go.Proofs.YtohmdledkhgdaaaGreatDoor
