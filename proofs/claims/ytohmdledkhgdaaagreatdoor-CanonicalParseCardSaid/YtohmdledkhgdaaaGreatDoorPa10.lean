/- The words of a command: target. -/
import Derived.Test.YtohmdledkhgdaaaGreatDoorPa09
import Derived.Lib.BytesEntry
import Derived.Lib.Bytealg
namespace Go.Proofs.YtohmdledkhgdaaaGreatDoor
open Go.RowKit
set_option linter.unusedVariables false
set_option maxRecDepth 100000
theorem WS.row {w:World} {b:Nat} {t:ByteArray} {st en:Nat} {at_:Int} {er:Nat} (h:WS w b t st en at_ er) {g:Nat} (hg:b≠g) (cs:Array Value):WS (w.setRow g cs) b t st en at_ er:=⟨(setRow_other w g b cs hg).trans h.1,h.2⟩
theorem Fr1.row {b g:Nat} {w w':World} (h:Fr1 b w w') (hg:w.heap.size≤g) (cs:Array Value):Fr1 b w (w'.setRow g cs):=
 have B:=below_setRow (Below.refl g w') (Nat.le_refl g) cs
 ⟨B.os.trans h.os,B.tape.trans h.tape,B.output.trans h.output,Nat.le_trans h.size B.size,fun k hk hne=>(setRow_other w' g k cs (by omega)).trans (h.other k hk hne)⟩
def Cl (n:Nat) (cs:Array Value):Prop:=cs.size=n∧cs.all (·.oneCell')=true
theorem Ycg {l:List Nat} (h:IdOk l):Cl 32 (idA l):=⟨by rw[Xag,h.len],Xed _⟩
theorem Xal (w:World) (g n:Nat) (ty:TypeId) (d:TypeDesc) (cs:Array Value) (T:TypeId) (fr:Nat×Nat) (hg:w.heap[g]?=some (.cells cs T fr)) (hd:(match d with|.struct _|.array _ _=>true|_=>false)=true) (hu:Tryz.prog.underlying ty=some d) (hi:(Tryz.prog.info? ty).map (·.size)=some n) (hc:cs.size=n):
    (loadVar ty ⟨g,0,none⟩).run Tryz.prog w=.ok (.agg cs) w:=
 by
 have hi':(Tryz.prog.info? ty).map (·.size)=some cs.size:=by rw[hi,hc]
 cases d<;>first|exact run_loadVar_row w g T ty cs fr _ hg hu rfl hi'|exact absurd hd (by simp)
set_option maxHeartbeats 2000000 in
theorem Xlg (w:World) (b:Nat) (t:ByteArray) (st en:Nat) (at_:Int) (er:Nat) (h:WS w b t st en at_ er) (hE:Env w) (hb9:9≤b) (ht:t.size≤1000000):
    Calls Tryz.prog 185 #[.pointer (some ⟨b,0,none⟩)] w (Xlc w b t en er Xhe fun v=>∃cs,v=.agg cs∧Cl 32 cs):=by
 obtain⟨zs,hzs⟩:∃zs,zs=idA zero32:=⟨_,rfl⟩
 have zcl:Cl 32 zs:=by rw[hzs];exact Ycg zero_ok
 have BU:Hid (∀w,(Instr.build 26 #[]).run Tryz.prog w=.ok (.agg zs) w):=Hd (fun w=>by rw[hzs];kernel_rfl)
 have hbw:=h.lt
 have NX:Hid (∀w0,w.alloc (.cells zs 26)=w0→Calls Tryz.prog 224 #[.pointer (some ⟨b,0,none⟩)] w0 (Xzm (w.alloc (.cells zs 26)) b t st en er)):=Hd (by
  rintro w0 rfl
  have B:=(Below.refl w.heap.size w).alloc (Nat.le_refl _) (.cells zs 26)
  exact Xfo _ b t st en at_ er (h.below B) (hE.on B) hb9 ht)
 have START:Hid (w.alloc (.cells zs 26)=w.alloc (.cells (Array.replicate 32 (.int .u8 0)) 26)):=Hd (by rw[hzs];rfl)
 have HE:=Hd hE
 have ZCL:=Hd zcl
 clear h hE hzs zcl
 go_enter Tryz.func185,Tryz.ntmps185
 go_wp2_with fail
 refine(NX.out _ START.out).mono ?_
 rintro e w1 ⟨x,ok,st',en',a,er',rfl,h1,f1,hx,h⟩
 have hz1:w1.heap[w.heap.size]?=some (.cells zs 26 (0,0)):=(f1.other w.heap.size (by simp) (by omega)).trans (heap_alloc_new w _)
 have f0:Fr1 b w w1:=(Fr1.of_below ((Below.refl w.heap.size w).alloc (Nat.le_refl _) _)).trans f1
 have H1:=Hd h1;have F1:=Hd f0;have Z1:=Hd hz1
 have hs1:w.heap.size<w1.heap.size:=lt_of_block hz1
 clear NX h1 f1 START f0 hz1
 rcases h with⟨rfl,hne,hk⟩|⟨rfl,rfl,rfl,hk⟩
 ·have SL:Hid (StL t en er en' er' Xhe):=Hd (StL.no hne hk)
  have ST:=Hd (run_storeVar_row (P:=Tryz.prog) w1 w.heap.size _ 26 zs zs Z1.out (by rw[ZCL.out.1];exact Xbf) rfl ZCL.out.2)
  have W2:=Hd (setRow_heap w1 w.heap.size zs zs _ _ Z1.out)
  have H2:=Hd (H1.out.row (show b≠w.heap.size by omega) zs)
  have F2:=Hd (F1.out.row (Nat.le_refl w.heap.size) zs)
  clear hne hk
  go_wp2_with (first
   |((with_reducible refine Xae 26 rfl rfl ?_);refine⟨_,BU.out _,?_⟩)
   |((with_reducible refine Xab 26 rfl _ _ rfl ?_);refine⟨_,_,_,rfl,rfl,ST.out,?_⟩))
  exact bodyPost_ret (results_cell_row Tryz.results185 _ _ w.heap.size _ _ _ _ rfl W2.out Tryz.underlying26 rfl (by rw[ZCL.out.1];exact Xbf)) rfl
   ⟨_,st',en',a,er',rfl,⟨_,rfl,ZCL.out⟩,H2.out,F2.out,SL.out⟩
 ·have SL:Hid (StL t en 0 en' (Xhe (bs x)) Xhe):=Hd (StL.yes hk)
  have MP:=Hd (Xhq x w1 (by omega))
  have TF:Hid (Xhe (bs x)=match Xe4 (bs x) with|none=>3|some i=>if i=zero32 then 1 else 0):=Hd rfl
  clear hk
  have FIN:Hid (∀(w4:World) (cs:Array Value) (p:Nat) (st':Nat) (a:Int) (n:Nat),Cl 32 cs→w4.heap[w.heap.size]?=some (.cells zs 26 (0,0))→w4.heap[p]?=some (.cells cs 26 (0,0))→WS w4 b t st' en' a n→Fr1 b w w4→StL t en 0 en' n Xhe→
      (loadVar 26 ⟨p,0,none⟩).run Tryz.prog w4=.ok (.agg cs) w4∧(storeVar 26 ⟨w.heap.size,0,none⟩ (.agg cs)).run Tryz.prog w4=.ok () (w4.setRow w.heap.size cs)∧
      (∀tmps:Array Value,tmps.getD 2 undef=.pointer (some ⟨w.heap.size,0,none⟩)→(results Tryz.f185 tmps).run Tryz.prog (w4.setRow w.heap.size cs)=.ok (.agg cs) (w4.setRow w.heap.size cs))∧
      Xlc w b t en 0 Xhe (fun v=>∃cs,v=.agg cs∧Cl 32 cs) (.returned (.agg cs)) (w4.setRow w.heap.size cs)):=Hd (fun w4 cs p st' a n hcl hg hp hw hf hsl=>
   ⟨Xal w4 p 32 _ _ cs _ _ hp rfl Tryz.underlying26 Xbf hcl.1,
    run_storeVar_row (P:=Tryz.prog) w4 w.heap.size _ 26 zs cs hg (by rw[hcl.1];exact Xbf) (by rw[hcl.1,ZCL.out.1]) hcl.2,
    fun tmps h2=>results_cell_row Tryz.results185 tmps _ w.heap.size _ _ _ _ h2 (setRow_heap w4 w.heap.size zs cs _ _ hg) Tryz.underlying26 rfl (by rw[hcl.1];exact Xbf),
    ⟨_,st',en',a,n,rfl,⟨_,rfl,hcl⟩,hw.row (by omega) cs,hf.row (Nat.le_refl _) cs,hsl⟩⟩)
  cases hp:Xe4 (bs x) with
  |none=>
   have SL2:Hid (StL t en 0 en' 3 Xhe):=Hd (by have:=SL.out;rw[TF.out,hp] at this;exact this)
   clear SL TF
   go_wp2_with fail
   refine MP.out.mono ?_
   rintro e w2 ⟨a2,er2,hv,hb2⟩
   rw[hp] at hv
   obtain⟨rfl,her⟩:=hv
   obtain⟨cs,hcs⟩:∃cs,cs=idA zero32:=⟨_,rfl⟩
   have CL:Hid (Cl 32 cs):=Hd (by rw[hcs];exact Ycg zero_ok)
   rw[←hcs]
   have q0:(er2 !=0)=true:=Xam her
   have STN:Hid (∀zz:Array Value,zz.size=32→(storeVar 26 ⟨w2.heap.size,0,none⟩ (.agg cs)).run Tryz.prog (w2.alloc (.cells zz 26))=.ok () (w2.alloc (.cells cs 26))):=Hd (fun zz hz=>run_storeVar_new w2 26 zz cs (by rw[CL.out.1];exact Xbf) (by rw[hz,CL.out.1]) CL.out.2)
   have hb3:Below w1.heap.size w1 (w2.alloc (.cells cs 26)):=hb2.alloc hb2.size _
   have h3:=H1.out.below hb3
   have hc1:(w2.alloc (.cells cs 26)).cell? ⟨b,1,none⟩=some (.int .i64 (st':Int)):=cell_of_row _ b 1 _ _ _ h3.1
   have Z3:=Hd ((hb3.block _ hs1).trans Z1.out)
   have P3:=Hd (heap_alloc_new w2 (.cells cs 26))
   have F3:=Hd (F1.out.trans (Fr1.of_below hb3))
   have FL:=Hd (Xb7 _ b t st' en' a 0 h3 (st':Int) 3)
   have hbp:b≠w2.heap.size:=by have:=H1.out.lt;have:=hb2.size;omega
   have hgp:w.heap.size<w2.heap.size:=by have:=hb2.size;omega
   clear MP hp her hb2 hb3 h3 hcs
   go_wp2_with ((with_reducible refine Xab 26 rfl _ _ rfl ?_);refine⟨_,_,_,rfl,rfl,STN.out _ rfl,?_⟩)
   refine FL.out.mono ?_
   rintro e w4 ⟨⟨v,rfl⟩,⟨a',h4⟩,f4⟩
   obtain⟨LD,ST,RES,POST⟩:=FIN.out w4 cs w2.heap.size st' a' 3 CL.out ((f4.other _ (by simp;omega) (by omega)).trans Z3.out) ((f4.other _ (by simp) (by omega)).trans P3.out) h4 (F3.out.trans f4) SL2.out
   have LD:=Hd LD;have ST:=Hd ST;have RES:=Hd RES;have POST:=Hd POST
   clear h4 f4 FL FIN hc1
   go_upto_region 9 with fail
   refine wp_region_list ?_
   simp only[]
   refine Xac 26 rfl _ rfl ⟨_,_,rfl,LD.out,?_⟩
   go_wp2_with ((with_reducible refine Xab 26 rfl _ _ rfl ?_);refine⟨_,_,_,rfl,rfl,ST.out,?_⟩)
   exact bodyPost_ret (RES.out _ rfl) rfl POST.out
  |some l=>
   have IOK:=Hd (Xln hp)
   obtain⟨z,hz⟩:∃z,z=decide (l=zero32):=⟨_,rfl⟩
   have SL2:Hid (StL t en 0 en' (if z=true then 1 else 0) Xhe):=Hd (by have:=SL.out;rw[TF.out,hp] at this;simp only[hz,decide_eq_true_eq];exact this)
   clear SL TF
   go_wp2_with fail
   refine MP.out.mono ?_
   rintro e w2 ⟨a2,er2,hv,hb2⟩
   rw[hp] at hv
   obtain rfl:=hv
   obtain⟨cs,hcs⟩:∃cs,cs=idA l:=⟨_,rfl⟩
   have CL:Hid (Cl 32 cs):=Hd (by rw[hcs];exact Ycg IOK.out)
   have IZ:Hid (∀w,Calls Tryz.prog 99 #[.agg cs] w fun e w'=>e=.returned (.bool z)∧Below w.heap.size w w'):=Hd (fun w=>by rw[hz,hcs];exact Xfs w IOK.out)
   rw[←hcs]
   have STN:Hid (∀zz:Array Value,zz.size=32→(storeVar 26 ⟨w2.heap.size,0,none⟩ (.agg cs)).run Tryz.prog (w2.alloc (.cells zz 26))=.ok () (w2.alloc (.cells cs 26))):=Hd (fun zz hz=>run_storeVar_new w2 26 zz cs (by rw[CL.out.1];exact Xbf) (by rw[hz,CL.out.1]) CL.out.2)
   have hb3:Below w1.heap.size w1 (w2.alloc (.cells cs 26)):=hb2.alloc hb2.size _
   have H3:=Hd (H1.out.below hb3)
   have Z3:=Hd ((hb3.block _ hs1).trans Z1.out)
   have P3:=Hd (heap_alloc_new w2 (.cells cs 26))
   have F3:=Hd (F1.out.trans (Fr1.of_below hb3))
   have LD0:Hid ((loadVar 26 ⟨w2.heap.size,0,none⟩).run Tryz.prog (w2.alloc (.cells cs 26))=.ok (.agg cs) (w2.alloc (.cells cs 26))):=Hd (Xal _ w2.heap.size 32 _ _ cs _ _ P3.out rfl Tryz.underlying26 Xbf CL.out.1)
   have hbp:b<w2.heap.size:=by have:=H1.out.lt;have:=hb2.size;omega
   have hgp:w.heap.size<w2.heap.size:=by have:=hb2.size;omega
   clear MP hp hb2 hb3 hcs hz
   go_upto_region 7 with((with_reducible refine Xab 26 rfl _ _ rfl ?_);refine⟨_,_,_,rfl,rfl,STN.out _ rfl,?_⟩)
   refine wp_region_list ?_
   simp only[]
   refine Xac 26 rfl _ rfl ⟨_,_,rfl,LD0.out,?_⟩
   go_wp2_with fail
   refine(IZ.out _).mono ?_
   rintro e w3 ⟨rfl,hb4⟩
   have h4:=H3.out.below hb4
   have hc1:w3.cell? ⟨b,1,none⟩=some (.int .i64 (st':Int)):=cell_of_row _ b 1 _ _ _ h4.1
   have Z4:=Hd ((hb4.block _ (by simp;omega)).trans Z3.out)
   have P4:=Hd ((hb4.block _ (by simp)).trans P3.out)
   have F4:=Hd (F3.out.trans (Fr1.of_below hb4))
   have H4:=Hd h4
   have hs4:w2.heap.size<w3.heap.size:=lt_of_block P4.out
   have FL:=Hd (Xb7 _ b t st' en' a 0 h4 (st':Int) 1)
   clear hb4 h4 IZ LD0 STN Z3 P3
   cases z
   ·obtain⟨LD,ST,RES,POST⟩:=FIN.out w3 cs w2.heap.size st' a 0 CL.out Z4.out P4.out H4.out F4.out SL2.out
    have LD:=Hd LD;have ST:=Hd ST;have RES:=Hd RES;have POST:=Hd POST
    clear FL FIN hc1
    go_upto_region 9 with fail
    refine wp_region_list ?_
    simp only[]
    refine Xac 26 rfl _ rfl ⟨_,_,rfl,LD.out,?_⟩
    go_wp2_with ((with_reducible refine Xab 26 rfl _ _ rfl ?_);refine⟨_,_,_,rfl,rfl,ST.out,?_⟩)
    exact bodyPost_ret (RES.out _ rfl) rfl POST.out
   ·go_wp2_with fail
    refine FL.out.mono ?_
    rintro e w4 ⟨⟨v,rfl⟩,⟨a',h4⟩,f4⟩
    obtain⟨LD,ST,RES,POST⟩:=FIN.out w4 cs w2.heap.size st' a' 1 CL.out ((f4.other _ (by omega) (by omega)).trans Z4.out) ((f4.other _ (by omega) (by omega)).trans P4.out) h4 (F4.out.trans f4) SL2.out
    have LD:=Hd LD;have ST:=Hd ST;have RES:=Hd RES;have POST:=Hd POST
    clear h4 f4 FL FIN hc1
    go_upto_region 9 with fail
    refine wp_region_list ?_
    simp only[]
    refine Xac 26 rfl _ rfl ⟨_,_,rfl,LD.out,?_⟩
    go_wp2_with ((with_reducible refine Xab 26 rfl _ _ rfl ?_);refine⟨_,_,_,rfl,rfl,ST.out,?_⟩)
    exact bodyPost_ret (RES.out _ rfl) rfl POST.out
def Xtd (w:World) (b:Nat) (t:ByteArray) (en er:Nat) (e:Ending) (w':World):Prop:=
 ∃(s:ByteArray) (st' en':Nat) (a:Int) (er':Nat),e=.returned (.string s)∧s.size≤t.size∧WS w' b t st' en' a er'∧Fr1 b w w'∧fe er' (fin ((bs t).drop en'))=fe er (Xd2 ((bs t).drop en))
theorem Yfk {t:ByteArray} {en:Nat} (h:t.size≤en):fin ((bs t).drop en)=0:=by
 unfold fin;rw[List.drop_of_length_le (by rw[Xaa];exact h),if_pos rfl]
theorem Xow (n:Nat):fe n 0=n:=by unfold fe;split<;>simp_all
set_option maxHeartbeats 2000000 in
theorem Yau (w:World) (b:Nat) (t:ByteArray) (st en:Nat) (at_:Int) (er:Nat) (h:WS w b t st en at_ er) (hb9:9≤b) (ht:t.size≤1000000):
    Calls Tryz.prog 191 #[.pointer (some ⟨b,0,none⟩)] w (Xtd w b t en er):=by
 have hc0:w.cell? ⟨b,0,none⟩=some (.string t):=cell_of_row w b 0 _ _ _ h.1
 have hc2:w.cell? ⟨b,2,none⟩=some (.int .i64 (en:Int)):=cell_of_row w b 2 _ _ _ h.1
 have hc4:w.cell? ⟨b,4,none⟩=some (.int .i64 (er:Int)):=cell_of_row w b 4 _ _ _ h.1
 have hen:=h.2
 have H:=Hd h;have LEN:=Hd (Xaa t)
 clear h
 by_cases h0:er=0
 ·subst h0
  have hc4':w.cell? ⟨b,4,none⟩=some (.int .i64 0):=hc4
  clear hc4
  by_cases hq:en=t.size
  ·have hz:((en:Int)==(t.size:Int))=true:=by rw[hq];simp
   have LAW:Hid (fe 0 (fin ((bs t).drop en))=fe 0 (Xd2 ((bs t).drop en))):=Hd (by
    rw[List.drop_of_length_le (by rw[LEN.out];omega)];rfl)
   clear hq
   go_enter Tryz.func191,Tryz.ntmps191
   go_upto_region 1 with fail
   go_quiet (fail)
   go_wp2_with fail
   go_ret
   exact⟨⟨#[]⟩,st,en,at_,0,rfl,Nat.zero_le _,H.out.below (Dr.below ⟨nq,rfl⟩),Dr.fr ⟨nq,rfl⟩,LAW.out⟩
  ·have hlt:en<t.size:=by omega
   have hz:((en:Int)==(t.size:Int))=false:=Xak (by omega)
   obtain⟨t1,ht1⟩:∃t1,t1=t.extract (en+1) t.size:=⟨_,rfl⟩
   have hts:t1.size=t.size-(en+1):=by rw[ht1,ByteArray.size_extract];omega
   have hb1:bs t1=(bs t).drop (en+1):=by rw[ht1,Xby,List.take_of_length_le (by rw[LEN.out];exact Nat.le_refl _)]
   have HT:=Hd ht1
   have LAW:Hid (∀m,(m=if bs t1=[] then 4 else Xmd (bs t1))→fe m (fin ((bs t).drop t.size))=fe 0 (Xd2 ((bs t).drop en))):=Hd (fun m hm=>by
    rw[Yfk (Nat.le_refl _),Xow,show(bs t).drop en=(bs t)[en]'(by rw[LEN.out];exact hlt)::(bs t).drop (en+1) from List.drop_eq_getElem_cons _,hm,hb1]
    rfl)
   have htt:t1.size≤t.size:=by omega
   clear hq hts hb1 ht1
   go_enter Tryz.func191,Tryz.ntmps191
   go_upto_region 1 with fail
   go_quiet (fail)
   obtain⟨w0,hw0⟩:∃w0,w0=w.drewN nq:=⟨_,rfl⟩
   have H0:Hid (WS w0 b t st en at_ 0):=Hd (by rw[hw0];exact H.out.below (Dr.below ⟨nq,rfl⟩))
   have F0:Hid (Fr1 b w w0):=Hd (by rw[hw0];exact Dr.fr ⟨nq,rfl⟩)
   rw[←hw0]
   clear hw0 hc0 hc2 hc4' H
   have hc0:w0.cell? ⟨b,0,none⟩=some (.string t):=cell_of_row w0 b 0 _ _ _ H0.out.1
   have hc1:w0.cell? ⟨b,1,none⟩=some (.int .i64 (st:Int)):=cell_of_row w0 b 1 _ _ _ H0.out.1
   have hc2:w0.cell? ⟨b,2,none⟩=some (.int .i64 (en:Int)):=cell_of_row w0 b 2 _ _ _ H0.out.1
   have hf1:w0.frozen? ⟨b,1,none⟩=false:=by have:=H0.out.1;simp[World.frozen?,this]
   have hf2:w0.frozen? ⟨b,2,none⟩=false:=by have:=H0.out.1;simp[World.frozen?,this]
   go_upto_region 3 with fail
   go_region
   obtain⟨w1,hw1⟩:∃w1,w1=((w0.setCell ⟨b,1,none⟩ (.int .i64 ((en:Int)+1))).setCell ⟨b,2,none⟩ (.int .i64 (t.size:Int))).drew:=⟨_,rfl⟩
   have H1:Hid (WS w1 b t (en+1) t.size at_ 0):=Hd (by rw[hw1];exact⟨Xd0 (Xd0 H0.out.1 1 _) 2 _,Nat.le_refl _⟩)
   have F1:Hid (Fr1 b w w1):=Hd (by rw[hw1];exact((F0.out.trans (Fr1.setC _)).trans (Fr1.setC _)).trans (Dr.fr ⟨1,rfl⟩))
   rw[←hw1]
   clear hw1 hc0 hc1 hc2 hf1 hf2
   have hc0:w1.cell? ⟨b,0,none⟩=some (.string t):=cell_of_row w1 b 0 _ _ _ H1.out.1
   have hc1:w1.cell? ⟨b,1,none⟩=some (.int .i64 ((en:Int)+1)):=cell_of_row w1 b 1 _ _ _ H1.out.1
   go_upto_region 4 with fail
   go_quiet (fail)
   obtain⟨w2,hw2⟩:∃w2,w2=w1.drewN nq:=⟨_,rfl⟩
   have H2:Hid (WS w2 b t (en+1) t.size at_ 0):=Hd (by rw[hw2];exact H1.out.below (Dr.below ⟨nq,rfl⟩))
   have F2:Hid (Fr1 b w w2):=Hd (by rw[hw2];exact F1.out.trans (Dr.fr ⟨nq,rfl⟩))
   rw[←hw2]
   clear hw2 hc0 hc1
   have hc1:w2.cell? ⟨b,1,none⟩=some (.int .i64 ((en:Int)+1)):=cell_of_row w2 b 1 _ _ _ H2.out.1
   go_upto_region 5 with fail
   rw[show t.extract (en+1) t.size=t1 from HT.out.symm]
   clear HT
   have CT:Hid (∀w,Calls Tryz.prog 227 #[.string t1] w fun e w''=>e=.returned (.int .i64 (Xmd (bs t1):Nat))∧w''=w):=Hd (fun w=>(Xyv t1 w (by omega)).mono fun e w' h=>⟨h.1,h.2.symm⟩)
   obtain⟨m,hm⟩:∃m,m=Xmd (bs t1):=⟨_,rfl⟩
   rw[←hm] at CT LAW
   clear hm
   have TAIL:Hid (∀(wX:World) (a:Int) (n:Nat),WS wX b t (en+1) t.size a n→Fr1 b w wX→fe n m=(if bs t1=[] then 4 else m)→∃wY,wY=wX.drew∧wY.cell? ⟨b,1,none⟩=some (.int .i64 ((en:Int)+1))∧Calls Tryz.prog 146 #[.pointer (some ⟨b,0,none⟩),.int .i64 ((en:Int)+1),.int .i64 (m:Int)] wY (fun e w'=>(∃v,e=.returned v)∧Xtd w b t en 0 (.returned (.string t1)) w')):=Hd (fun wX a n hw hf hfe=>by
    have hb:Below wX.heap.size wX wX.drew:=Dr.below ⟨1,rfl⟩
    have hw2:=hw.below hb
    refine⟨_,rfl,cell_of_row wX.drew b 1 _ _ _ hw2.1,(Xb7 wX.drew b t (en+1) t.size a n hw2 _ m).mono ?_⟩
    rintro e w' ⟨⟨v,rfl⟩,⟨a',h3⟩,f3⟩
    exact⟨⟨_,rfl⟩,t1,en+1,t.size,a',_,rfl,htt,h3,(hf.trans (Fr1.of_below hb)).trans f3,LAW.out _ hfe⟩)
   by_cases he:t1=⟨#[]⟩
   ·have qe:t1.toList.isEmpty=true:=by rw[he,ByteArray.toList_eq];rfl
    have FL:=Hd (Xb7 w2 b t (en+1) t.size at_ 0 H2.out ((en:Int)+1) 4)
    have BE:Hid (bs t1=[]):=Hd (by rw[he];rfl)
    clear he
    go_upto_region 6 with fail
    go_wp2_with fail
    refine FL.out.mono ?_
    rintro e w3 ⟨⟨v,rfl⟩,⟨a',h3⟩,f3⟩
    obtain⟨wY,hY,hd1,FZ⟩:=TAIL.out w3 a' 4 h3 (F2.out.trans f3) (by rw[if_pos BE.out];rfl)
    have FZ:=Hd FZ
    clear FL f3 hc1 h3 TAIL LAW
    go_upto_region 7 with fail
    refine wp_region_still_tail 7 (by kernel_rfl) (by kernel_rfl) ?_
    simp only[List.take_succ_cons,List.take_zero,List.drop_succ_cons,List.drop_zero]
    change wpStill _ _ w3.drew (fun a'=>wpList _ _ _ _ a' w3.drew) _ _
    rw[←hY]
    clear hY
    repeat still_step
    still_call (CT.out _)
    refine wpStill_nil ?_
    go_wp2_with fail
    refine FZ.out.mono ?_
    rintro e w4 ⟨⟨v,rfl⟩,hp⟩
    have HP:=Hd hp
    clear hp
    go_wp2_with fail
    go_ret
    exact HP.out
   ·have qe:t1.toList.isEmpty=false:=Xdr (fun h=>he (ByteArray.ext (Array.eq_empty_of_size_eq_zero h)))
    obtain⟨wY,hY,hd1,FZ⟩:=TAIL.out w2 at_ 0 H2.out F2.out (by rw[if_neg (fun h=>he (by
     have:t1.size=0:=by rw[←Xaa,h];rfl
     exact ByteArray.ext (Array.eq_empty_of_size_eq_zero this)))];rfl)
    have FZ:=Hd FZ
    clear TAIL LAW hc1 he
    go_upto_region 7 with fail
    refine wp_region_still_tail 7 (by kernel_rfl) (by kernel_rfl) ?_
    simp only[List.take_succ_cons,List.take_zero,List.drop_succ_cons,List.drop_zero]
    change wpStill _ _ w2.drew (fun a'=>wpList _ _ _ _ a' w2.drew) _ _
    rw[←hY]
    clear hY
    repeat still_step
    still_call (CT.out _)
    refine wpStill_nil ?_
    go_wp2_with fail
    refine FZ.out.mono ?_
    rintro e w4 ⟨⟨v,rfl⟩,hp⟩
    have HP:=Hd hp
    clear hp
    go_wp2_with fail
    go_ret
    exact HP.out
 ·have hz:((er:Int)==0)=false:=Xak (by omega)
  have hz2:((er:Int) !=0)=true:=by simp[bne,hz]
  have LAW:Hid (fe er (fin ((bs t).drop en))=fe er (Xd2 ((bs t).drop en))):=Hd (by unfold fe;rw[if_pos h0,if_pos h0])
  clear h0
  go_enter Tryz.func191,Tryz.ntmps191
  go_upto_region 1 with fail
  go_quiet (fail)
  go_wp2_with fail
  go_ret
  exact⟨⟨#[]⟩,st,en,at_,er,rfl,Nat.zero_le _,H.out.below (Dr.below ⟨nq,rfl⟩),Dr.fr ⟨nq,rfl⟩,LAW.out⟩
def pa (l:List Nat) (j:Nat):List Nat:=(List.range 16).map fun k=>if 2*k+1<j then 16*hv (l.getD (2*k) 0)+hv (l.getD (2*k+1) 0) else if 2*k<j then hv (l.getD (2*k) 0) else 0
theorem Xh9 (l:List Nat) (j:Nat):(pa l j).length=16:=by simp[pa]
theorem Xp6 {l:List Nat} {j k:Nat} (hk:k<16):(pa l j)[k]?=some (if 2*k+1<j then 16*hv (l.getD (2*k) 0)+hv (l.getD (2*k+1) 0) else if 2*k<j then hv (l.getD (2*k) 0) else 0):=by
 simp[pa,hk]
theorem Xx0 (c:Nat):hv c<16:=by
 unfold hv
 cases h:hvl c with
 |none=>decide
 |some x=>unfold hvl at h;split at h<;>(try split at h)<;>simp at h<;>simp<;>omega
theorem Yer (l:List Nat):pa l 0=List.replicate 16 0:=by
 apply List.ext_getElem?
 intro k
 by_cases hk:k<16
 ·rw[Xp6 hk,if_neg (by omega),if_neg (by omega),List.getElem?_replicate,if_pos hk]
 ·rw[List.getElem?_eq_none (by rw[Xh9];omega),List.getElem?_eq_none (by simp;omega)]
theorem Yes {l:List Nat} {j k v:Nat} (hk:k=j/2) (hj:j<32) (hv':(pa l j)[k]?=some v):pa l (j+1)=(pa l j).set k (16*v%256+hv (l.getD j 0))∧v<16:=by
 rw[Xp6 (by omega)] at hv'
 have hv2:=Option.some.inj hv'
 rw[if_neg (by omega)] at hv2
 have h16:v<16:=by
  rw[←hv2];split
  ·exact Xx0 _
  ·decide
 refine⟨?_,h16⟩
 apply List.ext_getElem?
 intro n
 by_cases hn:n<16
 ·rw[List.getElem?_set]
  by_cases e:k=n
  ·subst e
   rw[if_pos rfl,if_pos (by rw[Xh9];exact hn),Xp6 hn]
   by_cases hp:j=2*k
   ·rw[if_neg (by omega),if_pos (by omega)]
    rw[if_neg (by omega)] at hv2
    rw[←hv2,←hp];simp
   ·have e2:j=2*k+1:=by omega
    rw[if_pos (by omega)]
    rw[if_pos (by omega)] at hv2
    rw[hv2,Nat.mod_eq_of_lt (by omega),e2]
  ·rw[if_neg e,Xp6 hn,Xp6 hn]
   by_cases c1:2*n+1<j
   ·rw[if_pos (by omega),if_pos c1]
   ·rw[if_neg (by omega),if_neg c1]
    by_cases c2:2*n<j
    ·rw[if_pos (by omega),if_pos c2]
    ·rw[if_neg (by omega),if_neg c2]
 ·rw[List.getElem?_eq_none (by rw[Xh9];omega),List.getElem?_eq_none (by rw[List.length_set,Xh9];omega)]
theorem Yea:∀(n:Nat) (l:List Nat) (k:Nat),l.length=2*n→k<n→(uh l)[k]?=some (16*hv (l.getD (2*k) 0)+hv (l.getD (2*k+1) 0))
 |n+1,a::b::t,0,h,hk=>by simp[uh]
 |n+1,a::b::t,k+1,h,hk=>by
  simp only[uh,List.getElem?_cons_succ]
  rw[Yea n t k (by simp at h;omega) (by omega)]
  rw[show 2*(k+1)=2*k+1+1 by omega]
  simp
 |n+1,[_],_,h,_=>by simp at h;omega
 |n+1,[],_,h,_=>by simp at h
theorem Yhe {l:List Nat} (h:l.length=32):pa l 32=uh l:=by
 apply List.ext_getElem?
 intro k
 by_cases hk:k<16
 ·rw[Xp6 hk,Yea 16 l k (by omega) hk,if_pos (by omega)]
 ·rw[List.getElem?_eq_none (by rw[Xh9];omega),List.getElem?_eq_none (by rw[Xjb 16 l (by omega)];omega)]
theorem Xtb {l:List Nat} (h:l.length=32) (hd:l.all hdB=true):Xeo l=some (uh l):=by
 unfold Xeo;rw[if_pos h];exact Xg1 16 l (by omega) hd
theorem Xne {l:List Nat} (h:l.length≠32):Xeo l=none:=by unfold Xeo;rw[if_neg h]
theorem Xza {l:List Nat} {j:Nat} (hj:j<l.length) (hd:hdB (l.getD j 0)=false):Xeo l=none:=by
 unfold Xeo
 split
 ·refine Xe9 _ ?_
  rw[List.all_eq_false]
  refine⟨l[j],List.getElem_mem hj,?_⟩
  rw[List.getD_eq_getElem?_getD,List.getElem?_eq_getElem hj,Option.getD_some] at hd
  rw[hd];decide
 ·rfl
theorem Xjh:(Tryz.prog.info? 33).map (·.size)=some 16:=by kernel_rfl
structure AuOk (l:List Nat):Prop where
 len:l.length=16
 lt:∀x∈l,x<256
theorem Xta {l id:List Nat} (h:Xeo l=some id):AuOk id:=by
 unfold Xeo at h
 split at h
 ·rename_i h32
  by_cases hd:l.all hdB=true
  ·rw[Xg1 16 l (by omega) hd] at h;cases h
   exact⟨Xjb 16 l (by omega),Yd9 l hd⟩
  ·rw[Xe9 l (by simpa using hd)] at h;cases h
 ·cases h
theorem Xq7 {l:List Nat} (h:AuOk l):Cl 16 (idA l):=⟨by rw[Xag,h.len],Xed _⟩
def Xdc:List Nat:=List.replicate 16 0
theorem Xe7:AuOk Xdc:=⟨by simp[Xdc],fun x hx=>by simp[Xdc] at hx;omega⟩
def Xl7 (l:List Nat) (w:World) (e:Ending) (w':World):Prop:=
 ∃(a er:Int),(match Xeo l with
  |some id=>e=.returned (.tuple #[.agg (idA id),.int .i64 a,.int .i64 0])
  |none=>e=.returned (.tuple #[.agg (idA Xdc),.int .i64 a,.int .i64 er])∧er≠0)∧Below w.heap.size w w'
theorem Xql {c:Nat} (h:hdB c=false):hvz c=-1:=by
 unfold hdB at h;unfold hvz
 cases hc:hvl c with
 |none=>rfl
 |some x=>rw[hc] at h;simp at h
theorem Xm0 {c:Nat} (h:hdB c=true):hvz c=(hv c:Int):=by
 unfold hdB at h;unfold hvz hv
 cases hc:hvl c with
 |none=>rw[hc] at h;simp at h
 |some x=>rfl
theorem Xqk (l:List Nat) (k v:Nat):(idA l).setIfInBounds k (U v)=idA (l.set k v):=by
 unfold idA
 rw[List.setIfInBounds_toArray,List.map_set]
set_option maxHeartbeats 4000000 in
theorem Xjp (s:ByteArray) (w:World) (hs:s.size≤1000000):
    Calls Tryz.prog 111 #[.string s] w (Xl7 (bs s) w):=by
 obtain⟨zs,hzs⟩:∃zs,zs=idA Xdc:=⟨_,rfl⟩
 have LEN:=Hd (Xaa s)
 have HZS:=Hd hzs
 have ZCL:Hid (Cl 16 zs):=Hd (by rw[hzs];exact Xq7 Xe7)
 have BU:Hid (∀w,(Instr.build 33 #[]).run Tryz.prog w=.ok (.agg zs) w):=Hd (fun w=>by rw[hzs];kernel_rfl)
 have START:Hid (w.alloc (.cells (Array.replicate 16 (.int .u8 0)) 33)=w.alloc (.cells zs 33)):=Hd (by rw[hzs];rfl)
 have FIN:Hid (∀(w4:World) (old cs:Array Value),Cl 16 cs→old.size=16→w4.heap[w.heap.size]?=some (.cells old 33 (0,0))→Below w.heap.size w w4→
     (storeVar 33 ⟨w.heap.size,0,none⟩ (.agg cs)).run Tryz.prog w4=.ok () (w4.setRow w.heap.size cs)∧
     (∀tmps:Array Value,tmps.getD 2 undef=.pointer (some ⟨w.heap.size,0,none⟩)→(results Tryz.f111 tmps).run Tryz.prog (w4.setRow w.heap.size cs)=.ok (.tuple #[.agg cs,tmps.getD 3 undef,tmps.getD 4 undef]) (w4.setRow w.heap.size cs))∧
     Below w.heap.size w (w4.setRow w.heap.size cs)):=Hd (fun w4 old cs hcl ho hg hb=>
  ⟨run_storeVar_row (P:=Tryz.prog) w4 w.heap.size _ 33 old cs hg (by rw[hcl.1];exact Xjh) (by rw[hcl.1,ho]) hcl.2,
   fun tmps h2=>Xas Tryz.results111 tmps _ w.heap.size _ _ _ _ h2 (setRow_heap w4 w.heap.size old cs _ _ hg) Tryz.underlying33 rfl (by rw[hcl.1];exact Xjh),
   below_setRow hb (Nat.le_refl _) cs⟩)
 have NO:Hid (Xeo (bs s)=none→∀a er:Int,er≠0→∀w',Below w.heap.size w w'→Xl7 (bs s) w (.returned (.tuple #[.agg zs,.int .i64 a,.int .i64 er])) w'):=Hd (fun h a er he w' hb=>⟨a,er,by rw[h,HZS.out];exact⟨rfl,he⟩,hb⟩)
 obtain⟨mn,hmn⟩:∃mn:Nat,mn=min s.size 32:=⟨_,rfl⟩
 have hm1:mn≤s.size:=by omega
 have hm2:mn≤32:=by omega
 have HMN:=Hd hmn
 have mi:min (s.size:Int) 32=(mn:Int):=by omega
 have PZ:Hid (zs=idA (pa (bs s) 0)):=Hd (by rw[hzs,Yer];rfl)
 clear hzs hmn
 go_enter Tryz.func111,Tryz.ntmps111
 go_wp2_with fail
 go_loopg [5,6,10] mn (fun k x y i wr=>∃j:Nat,j≤mn∧k=mn-j∧i=.int .i64 (j:Int)∧Hid (∀q,q<j→hdB ((bs s).getD q 0)=true)∧Hid (wr.heap[w.heap.size]?=some (.cells (idA (pa (bs s) j)) 33 (0,0)))∧Hid (Below w.heap.size w wr))
 case atStart=>exact⟨0,by omega,rfl,rfl,Hd (fun q hq=>by omega),Hd (by have h:=heap_alloc_new w (.cells zs 33);rw[←START.out] at h;rw[←PZ.out];exact h),Hd ((Below.refl _ _).alloc (Nat.le_refl _) _)⟩
 case round=>
  obtain⟨j,hj,rfl,rfl,hg,hcell,hbel⟩:=hrel
  by_cases hlt:j<mn
  ·obtain⟨c,hc⟩:∃c,c=(bs s).getD j 0:=⟨_,rfl⟩
   have hc2:c<256:=by rw[hc];exact Xa8 s j
   have xn:∀w,(Instr.index 9 (.string s) (.int .i64 (j:Int))).run Tryz.prog w=.ok (.int .u8 (c:Int)) w:=fun w=>by rw[Xa7 9 Tryz.underlying9 s .i64 j j rfl (by omega),hc]
   have IX:=Hd (Xxs wr c hc2)
   by_cases hd:hdB c=true
   ·rw[Xm0 hd] at IX
    obtain⟨y,hy⟩:∃y,y=hv c:=⟨_,rfl⟩
    have hy16:y<16:=by rw[hy];exact Xx0 c
    rw[←hy] at IX
    obtain⟨k,hk⟩:∃k,k=j/2:=⟨_,rfl⟩
    have hk16:k<16:=by omega
    obtain⟨v,hv'⟩:∃v,(pa (bs s) j)[k]?=some v:=⟨_,Xp6 hk16⟩
    obtain⟨hst,hv16⟩:=Yes hk (by omega) hv'
    rw[←hc,←hy] at hst
    have hck:wr.cell? ⟨w.heap.size,k,none⟩=some (.int .u8 (v:Int)):=by rw[cell_of_row wr _ k _ _ _ hcell.out];unfold idA;rw[List.getElem?_toArray,List.getElem?_map,hv'];rfl
    have hfk:wr.frozen? ⟨w.heap.size,k,none⟩=false:=by have:=hcell.out;simp[World.frozen?,this]
    obtain⟨z,hz⟩:∃z,z=16*v%256+y:=⟨_,rfl⟩
    rw[←hz] at hst
    have s1:IntKind.u8.wrap ((v:Int)*16)=(v:Int)*16:=by rw[IntKind.wrap_u8];omega
    have s3:IntKind.u8.wrap (y:Int)=(y:Int):=by rw[IntKind.wrap_u8];omega
    have s2:Go.bits .or .u8 ((v:Int)*16) (y:Int)=(z:Int):=by
     rw[bits_join .u8 8 (by decide) wraps_u8 4 _ _ (by omega) (by omega) (by omega) (by omega) (by omega) (by omega)];omega
    have hdv:Int.tdiv (j:Int) 2=(k:Int):=by rw[Int.tdiv_eq_ediv_of_nonneg (by omega)];omega
    have HW:Hid ((wr.setCell ⟨w.heap.size,k,none⟩ (.int .u8 (z:Int))).heap[w.heap.size]?=some (.cells (idA (pa (bs s) (j+1))) 33 (0,0))):=Hd (by rw[hst,←Xqk];exact Xd0 hcell.out k _)
    have BW:Hid (Below w.heap.size w (wr.setCell ⟨w.heap.size,k,none⟩ (.int .u8 (z:Int)))):=Hd (hbel.out.setCell (p:=⟨w.heap.size,k,none⟩) (Nat.le_refl _) _)
    have G2:Hid (∀q,q<j+1→hdB ((bs s).getD q 0)=true):=Hd (fun q hq=>by
     by_cases e:q=j
     ·rw[e,←hc];exact hd
     ·exact hg.out q (by omega))
    have HK:=Hd hk
    clear hd hc hy hv' hst hz hg hcell hbel FIN NO BU START HK hk PZ
    go_wp2_with (go_at_call 151;refine IX.out.mono ?_;rintro e w' ⟨rfl,rfl⟩)
    go_roundg (mn-(j+1))
    case measure=>omega
    case rel=>exact⟨j+1,by omega,rfl,by go_num,G2,HW,BW⟩
   ·have hd':hdB c=false:=by simpa using hd
    rw[Xql hd'] at IX
    have NN:=Hd (NO.out (Xza (j:=j) (by rw[LEN.out];omega) (by rw[←hc];exact hd')))
    obtain⟨ST,RES,BB⟩:=FIN.out wr _ zs ZCL.out (by rw[Xag,Xh9]) hcell.out hbel.out
    have ST:=Hd ST;have RES:=Hd RES;have BB:=Hd BB
    clear hd hd' hc FIN NO
    go_wp2_with (first
     |(go_at_call 151;refine IX.out.mono ?_;rintro e w' ⟨rfl,rfl⟩)
     |((with_reducible refine Xae 33 rfl rfl ?_);refine⟨_,BU.out _,?_⟩)
     |((with_reducible refine Xab 33 rfl _ _ rfl ?_);refine⟨_,_,_,rfl,rfl,ST.out,?_⟩))
    exact bodyPost_ret (RES.out _ rfl) rfl (NN.out _ 6 (by decide) _ BB.out)
  ·obtain rfl:j=mn:=by omega
   by_cases h1:s.size<32
   ·have NN:=Hd (NO.out (Xne (by rw[LEN.out];omega)))
    obtain⟨ST,RES,BB⟩:=FIN.out wr _ zs ZCL.out (by rw[Xag,Xh9]) hcell.out hbel.out
    have ST:=Hd ST;have RES:=Hd RES;have BB:=Hd BB
    clear FIN NO
    go_wp2_with (first
     |((with_reducible refine Xae 33 rfl rfl ?_);refine⟨_,BU.out _,?_⟩)
     |((with_reducible refine Xab 33 rfl _ _ rfl ?_);refine⟨_,_,_,rfl,rfl,ST.out,?_⟩))
    exact bodyPost_ret (RES.out _ rfl) rfl (NN.out _ 4 (by decide) _ BB.out)
   ·by_cases h2:32<s.size
    ·have NN:=Hd (NO.out (Xne (by rw[LEN.out];omega)))
     obtain⟨ST,RES,BB⟩:=FIN.out wr _ zs ZCL.out (by rw[Xag,Xh9]) hcell.out hbel.out
     have ST:=Hd ST;have RES:=Hd RES;have BB:=Hd BB
     clear FIN NO
     go_wp2_with (first
      |((with_reducible refine Xae 33 rfl rfl ?_);refine⟨_,BU.out _,?_⟩)
      |((with_reducible refine Xab 33 rfl _ _ rfl ?_);refine⟨_,_,_,rfl,rfl,ST.out,?_⟩))
     exact bodyPost_ret (RES.out _ rfl) rfl (NN.out _ 5 (by decide) _ BB.out)
    ·have h32:s.size=32:=by omega
     have hj32:j=32:=by have:=HMN.out;omega
     have GG:(bs s).all hdB=true:=Xgx (fun q hq=>hg.out q (by rw[LEN.out] at hq;omega))
     have YES:=Hd (Xtb (by rw[LEN.out];exact h32) GG)
     have OK:=Xta YES.out
     have hcell':=hcell.out
     rw[hj32,Yhe (by rw[LEN.out];exact h32)] at hcell'
     obtain⟨cs,hcs⟩:∃cs,cs=idA (uh (bs s)):=⟨_,rfl⟩
     have CL:Cl 16 cs:=by rw[hcs];exact Xq7 OK
     rw[←hcs] at hcell'
     obtain⟨ST,RES,BB⟩:=FIN.out wr _ cs CL CL.1 hcell' hbel.out
     have ST:=Hd ST;have RES:=Hd RES;have BB:=Hd BB
     have LD:=Hd (Xal wr w.heap.size 16 _ _ cs _ _ hcell' rfl Tryz.underlying33 Xjh CL.1)
     have HCS:=Hd hcs
     clear FIN NO OK hcell' CL GG hcs hj32 hcell hbel hg BU START
     go_upto_region 13 with fail
     refine wp_region_list ?_
     simp only[]
     refine Xac 33 rfl _ rfl ⟨_,_,rfl,LD.out,?_⟩
     go_wp2_with ((with_reducible refine Xab 33 rfl _ _ rfl ?_);refine⟨_,_,_,rfl,rfl,ST.out,?_⟩)
     exact bodyPost_ret (RES.out _ rfl) rfl (by unfold Xl7;rw[YES.out];simp only[];rw[←HCS.out];exact⟨_,0,rfl,BB.out⟩)
def Xy1 (l m:List Nat):Int:=Lib.compareBytes (Lib.bytesOf (l.map fun x=>((x:Nat):Int))) (Lib.bytesOf (m.map fun x=>((x:Nat):Int)))
theorem Ygz {a b:Nat} (ha:a<256) (hb:b<256):(UInt8.ofNat a<UInt8.ofNat b)↔a<b:=by
 rw[UInt8.lt_iff_toNat_lt]
 simp[Nat.mod_eq_of_lt ha,Nat.mod_eq_of_lt hb]
theorem Xy0:∀(l m:List Nat),(∀x∈l,x<256)→(∀x∈m,x<256)→decide (0≤Xy1 l m)=!ltL l m
 |[],[],_,_=>by decide
 |[],y::m,_,_=>by simp[Xy1,Lib.bytesOf,Lib.compareBytes,ltL]
 |x::l,[],_,_=>by simp[Xy1,Lib.bytesOf,Lib.compareBytes,ltL]
 |x::l,y::m,hl,hm=>by
  have ih:=Xy0 l m (fun z hz=>hl z (List.mem_cons_of_mem _ hz)) (fun z hz=>hm z (List.mem_cons_of_mem _ hz))
  have hx:=hl x (List.mem_cons_self ..)
  have hy:=hm y (List.mem_cons_self ..)
  have e:Xy1 (x::l) (y::m)=if x<y then -1 else if y<x then 1 else Xy1 l m:=by
   unfold Xy1
   simp only[Lib.bytesOf,List.map_cons,Lib.compareBytes,Int.toNat_natCast]
   simp only[Ygz hx hy,Ygz hy hx]
  rw[e]
  by_cases h1:x<y
  ·rw[if_pos h1];simp[ltL,h1]
  ·rw[if_neg h1]
   by_cases h2:y<x
   ·rw[if_pos h2];simp[ltL];omega
   ·rw[if_neg h2,ih]
    obtain rfl:x=y:=by omega
    simp[ltL]
theorem Xfb (w:World) {P:Program} (b off cap:Nat) (l:List Nat) (h:∀j u,(idA l)[j]?=some u→w.cell? ⟨b,off+j,none⟩=some u):
    (Extern.Bytes.bytesOf (.slice (some ⟨b,off,none⟩) l.length cap)).run P w=.ok ⟨(Lib.bytesOf (l.map fun x=>((x:Nat):Int))).toArray⟩ w:=by
 have:=Lib.run_loadBytesX (P:=P) w (l.map fun x=>((x:Nat):Int)) ⟨b,off,none⟩ .empty (by
  intro j x hx
  have:=h j (.int .u8 x) (by unfold idA;rw[List.getElem?_toArray,List.getElem?_map];rw[List.getElem?_map] at hx;cases hq:l[j]? with
   |none=>rw[hq] at hx;cases hx
   |some y=>rw[hq] at hx;simp at hx;subst hx;rfl)
  rw[←this]
  unfold Addr.add
  by_cases hj:j=0
  ·subst hj;rfl
  ·simp[hj])
 rw[List.length_map] at this
 unfold Extern.Bytes.bytesOf
 rw[this,show ByteArray.empty.data=#[] from rfl,Array.empty_append]
theorem Yeg (w:World) {P:Program} (b o c b' o' c':Nat) (l m:List Nat) (h:∀j u,(idA l)[j]?=some u→w.cell? ⟨b,o+j,none⟩=some u) (h':∀j u,(idA m)[j]?=some u→w.cell? ⟨b',o'+j,none⟩=some u):
    (Extern.BytealgCompare.compare #[.slice (some ⟨b,o,none⟩) l.length c,.slice (some ⟨b',o',none⟩) m.length c']).run P w=.ok (.int .i64 (Xy1 l m)) w:=by
 change Sem.run P (do pure (goInt (Extern.BytealgCompare.cmp (←Extern.Bytes.bytesOf (.slice (some ⟨b,o,none⟩) l.length c)) (←Extern.Bytes.bytesOf (.slice (some ⟨b',o',none⟩) m.length c'))))) w=_
 simp only[Sem.run_bind,Sem.run_pure,Xfb w b o c l h,Xfb w b' o' c' m h',Result.andThen]
 rw[Lib.cmp_eq]
 rfl
theorem Xq6 (w:World) (b o c b' o' c':Nat) (l m:List Nat) (h:∀j u,(idA l)[j]?=some u→w.cell? ⟨b,o+j,none⟩=some u) (h':∀j u,(idA m)[j]?=some u→w.cell? ⟨b',o'+j,none⟩=some u):
    Calls Tryz.prog 248 #[.slice (some ⟨b,o,none⟩) l.length c,.slice (some ⟨b',o',none⟩) m.length c'] w fun e w'=>e=.returned (.int .i64 (Xy1 l m))∧w'=w:=by
 have R:=Hd (Yeg (P:=Tryz.prog) w b o c b' o' c' l m h h')
 obtain⟨z,hz⟩:∃z,z=Xy1 l m:=⟨_,rfl⟩
 rw[←hz] at R⊢
 clear h h' hz
 go_enter Tryz.func248,Tryz.ntmps248
 go_wp2_with fail
 rw[run_callFunc_extern Tryz.func254 (by kernel_rfl) (by kernel_rfl) (by kernel_rfl) (e:=Extern.BytealgCompare.compare) (by kernel_rfl),R.out]
 simp only[Result.andThen]
 rw[Oper.upon_value]
 go_wp2_with fail
 go_ret
 exact⟨rfl,rfl⟩
def Ygo (w:World) (a:Option Addr) (ids:List (List Nat)):Prop:=
 ids≠[]→∃b off,a=some ⟨b,off,none⟩∧∀j (h:j<ids.length) k u,(idA ids[j])[k]?=some u→w.cell? ⟨b,off+j*16+k,none⟩=some u
theorem Xxv:∀(l:List (List Nat)) (i:Nat) (h:i+1<l.length),ltL l[i] l[i+1]=false→Xlw l=false
 |a::b::t,0,h,hl=>by simp at hl;simp[Xlw,hl]
 |a::b::t,i+1,h,hl=>by
  have:=Xxv (b::t) i (by simpa using h) (by simpa using hl)
  simp[Xlw,this]
 |[_],_,h,_=>by simp at h
 |[],_,h,_=>by simp at h
theorem Xqj:∀(l:List (List Nat)),(∀i (h:i+1<l.length),ltL l[i] l[i+1]=true)→Xlw l=true
 |a::b::t,h=>by
  have h0:=h 0 (by simp)
  have:=Xqj (b::t) (fun i hi=>by have:=h (i+1) (by simpa using hi);simpa using this)
  simp at h0
  simp[Xlw,h0,this]
 |[_],_=>rfl
 |[],_=>rfl
set_option maxHeartbeats 1000000 in
theorem Xxw (w:World) (a:Option Addr) (cap:Nat) (ids:List (List Nat)) (hn:ids.length≤1000000) (hA:Ygo w a ids) (hok:∀x∈ids,AuOk x):
    Calls Tryz.prog 226 #[.slice a ids.length cap] w fun e w'=>e=.returned (.bool (Xlw ids))∧Dr w w':=by
 obtain⟨n,hn'⟩:∃n,n=ids.length:=⟨_,rfl⟩
 have HN:=Hd hn'
 rw[←hn'] at hn⊢
 have HA:=Hd hA;have HOK:=Hd hok
 clear hn' hA hok
 go_enter Tryz.func226,Tryz.ntmps226
 go_wp2_with fail
 go_loopg [3] n (fun k i wr=>∃j:Nat,(j+1≤n∨j=0)∧k=n-j∧i=.int .i64 ((j:Int)+1)∧Hid (∀q (h:q+1<ids.length),q<j→ltL ids[q] ids[q+1]=true)∧Hid (Dr w wr))
 case atStart=>exact⟨0,.inr rfl,rfl,rfl,Hd (fun q h hq=>by omega),Hd (Dr.refl w)⟩
 case round=>
  obtain⟨j,hj,rfl,rfl,hg,hdr⟩:=hrel
  by_cases hlt:j+1<n
  ·have hl:j+1<ids.length:=by rw[←HN.out];exact hlt
   obtain⟨b,off,rfl,hcells⟩:=HA.out (fun e=>by rw[e] at hl;simp at hl)
   have o1:=HOK.out _ (List.getElem_mem (show j<ids.length by omega))
   have o2:=HOK.out _ (List.getElem_mem hl)
   have CM:Hid (∀q,Calls Tryz.prog 248 #[.slice (some ⟨b,off+j*16,none⟩) 16 16,.slice (some ⟨b,off+(j+1)*16,none⟩) 16 16] (wr.drewN q) fun e w'=>e=.returned (.int .i64 (Xy1 ids[j] ids[j+1]))∧w'=wr.drewN q):=Hd (fun q=>by
    obtain⟨p,hp⟩:=hdr.out
    have:=Xq6 (wr.drewN q) b (off+j*16) 16 b (off+(j+1)*16) 16 ids[j] ids[j+1] (fun k u hu=>by rw[hp];exact hcells j (by omega) k u hu) (fun k u hu=>by rw[hp];exact hcells (j+1) hl k u hu)
    rw[o1.len,o2.len] at this
    exact this)
   have CL:=Hd (Xy0 ids[j] ids[j+1] o1.lt o2.lt)
   have NO:=Hd (Xxv ids j hl)
   have G2:Hid (ltL ids[j] ids[j+1]=true→∀q (h:q+1<ids.length),q<j+1→ltL ids[q] ids[q+1]=true):=Hd (fun ht q h hq=>by
    by_cases e:q=j
    ·subst e;exact ht
    ·exact hg.out q h (by omega))
   obtain⟨z,hz⟩:∃z,z=Xy1 ids[j] ids[j+1]:=⟨_,rfl⟩
   obtain⟨r,hr⟩:∃r,r=ltL ids[j] ids[j+1]:=⟨_,rfl⟩
   rw[←hz] at CM CL
   rw[←hr] at CL NO G2
   have w1:IntKind.i64.wrap ((j:Int)+1-1)=(j:Int):=by rw[show(j:Int)+1-1=(j:Int) by omega];exact IntWalk.i64_in _ (by omega)
   have w2:IntKind.i64.wrap ((j:Int)+1+1)=(j:Int)+1+1:=IntWalk.i64_in _ (by omega)
   have p0:(0:Int)≤(j:Int)+1:=by omega
   have p1:(j:Int)+1<(n:Int):=by omega
   have p2:(j:Int)<(n:Int):=by omega
   clear hz hr hcells hl o1 o2 HA HOK hg hj
   have cl:=CL.out
   cases r
   ·have cl':decide (0≤z)=true:=cl
    have NO2:=Hd (NO.out rfl)
    clear NO CL cl G2
    go_wp2_with fail
    go_quiet (first|(go_at_call 248;exact Calls.quiet_of_same (CM.out _)))
    go_wp2_with fail
    go_ret
    obtain⟨p,hp⟩:=hdr.out
    exact⟨by rw[NO2.out];rfl,p+nq,by rw[hp,Xdx]⟩
   ·have cl':decide (0≤z)=false:=cl
    have G3:=Hd (G2.out rfl)
    clear NO CL cl G2
    go_wp2_with fail
    go_quiet (first|(go_at_call 248;exact Calls.quiet_of_same (CM.out _)))
    go_wp2_with fail
    go_roundg (n-(j+1))
    case measure=>omega
    case rel=>exact⟨j+1,.inl hlt,rfl,by go_num,G3,Hd (by obtain⟨p,hp⟩:=hdr.out;exact⟨p+nq,by rw[hp,Xdx]⟩)⟩
  ·have YES:=Hd (Xqj ids (fun i h=>hg.out i h (by rw[←HN.out] at h;omega)))
   go_wp2_with fail
   go_ret
   exact⟨by rw[YES.out];rfl,hdr.out⟩
def pkC (h:Int) (r:List Nat):Array Value:=(.int .i64 h::r.map U:List Value).toArray
theorem Xis {h:Int} {r:List Nat} (hr:r.length=16):(pkC h r).size=17:=by simp[pkC,hr]
theorem Yeq (h:Int) (r:List Nat):(pkC h r)[0]?=some (.int .i64 h):=rfl
theorem Xcw:(Tryz.prog.info? 35).map (·.size)=some 17:=by kernel_rfl
theorem Xqb (w:World) (g off:Nat) {h:Int} {r:List Nat} (hr:r.length=16) (hp:∀j u,(pkC h r)[j]?=some u→w.cell? ⟨g,off+j,none⟩=some u):
    (loadVar 35 ⟨g,off,none⟩).run Tryz.prog w=.ok (.agg (pkC h r)) w:=
 Xai w g off 35 (pkC h r) _ Tryz.underlying35 rfl (by rw[Xis hr];exact Xcw) hp
theorem Xfy (w:World) (g:Nat) (t:TypeId) (cs:Array Value) (fr:Nat×Nat) (hg:w.heap[g]?=some (.cells cs t fr)):∀j u,cs[j]?=some u→w.cell? ⟨g,0+j,none⟩=some u:=fun j u hu=>by
 rw[Nat.zero_add,cell_of_row w g j _ _ _ hg];exact hu
theorem Xet (w:World) (h:Int) {r:List Nat} (hr:r.length=16):
    Calls Tryz.prog 63 #[.agg (pkC h r)] w fun e w'=>e=.returned (.int .i64 (eIf (!Xau h) 2:Nat))∧Below w.heap.size w w':=by
 have H:=Hd (fun w=>Xur w h)
 have c0:=Yeq h r
 obtain⟨cs,hcs⟩:∃cs,cs=pkC h r:=⟨_,rfl⟩
 obtain⟨m,hm⟩:∃m,m=eIf (!Xau h) 2:=⟨_,rfl⟩
 rw[←hcs] at c0⊢
 rw[←hm] at H⊢
 clear hcs hm hr
 go_enter Tryz.func63,Tryz.ntmps63
 go_wp2_with (go_at_call 106;refine(H.out _).mono ?_;rintro e w' ⟨rfl,rfl⟩)
 go_ret
 exact⟨rfl,(Below.refl _ _).alloc (Nat.le_refl _) _⟩
set_option maxHeartbeats 1000000 in
theorem Xug (w:World) (h:Int) {r:List Nat} (hr:r.length=16):
    Calls Tryz.prog 64 #[.agg (pkC h r)] w fun e w'=>e=.returned (.int .i64 (Xbh h))∧Below w.heap.size w w':=by
 have c0:=Yeq h r
 have LD:=Hd (Xqb (w.alloc (.cells (pkC h r) 35)) w.heap.size 0 (h:=h) hr (Xfy _ _ _ _ _ (heap_alloc_last w _)))
 have P:=Hd (Xet (w.alloc (.cells (pkC h r) 35)) h hr)
 obtain⟨cs,hcs⟩:∃cs,cs=pkC h r:=⟨_,rfl⟩
 have B0:Hid (Below w.heap.size w (w.alloc (.cells cs 35))):=Hd ((Below.refl _ _).alloc (Nat.le_refl _) _)
 rw[←hcs] at c0 P LD⊢
 have HB0:Hid ((w.alloc (.cells cs 35)).heap[w.heap.size]?=some (.cells cs 35 (0,0))):=Hd (heap_alloc_last w _)
 clear hcs hr
 by_cases hh:1≤h∧h≤8
 ·have hb:Xau h=true:=by unfold Xau;rw[decide_eq_true hh.1,decide_eq_true hh.2];rfl
  have LN:Hid (Xbh h=2^h.toNat):=Hd (by unfold Xbh;rw[if_pos hb])
  rw[hb] at P
  clear hb
  obtain⟨h1,h2⟩:=hh
  rcases(by omega:h=1∨h=2∨h=3∨h=4∨h=5∨h=6∨h=7∨h=8) with rfl|rfl|rfl|rfl|rfl|rfl|rfl|rfl
  all_goals
   go_enter Tryz.func64,Tryz.ntmps64
   go_upto_region 1 with fail
   refine wp_region_list ?_
   simp only[]
   refine Xac 35 rfl _ rfl ⟨_,_,rfl,LD.out,?_⟩
   go_wp2_with fail
   refine P.out.mono ?_
   rintro e w1 ⟨rfl,hb1⟩
   have hz:w1.cell? ⟨w.heap.size,0,none⟩=cs[0]?:=by
    rw[hb1.cell (p:=⟨w.heap.size,0,none⟩) (by simp),cell_of_row _ _ _ _ _ _ HB0.out]
   rw[c0] at hz
   have B1:=Hd (B0.out.trans (hb1.mono B0.out.size))
   clear hb1
   go_wp2_with fail
   go_ret
   exact⟨by rw[LN.out];rfl,B1.out⟩
 ·have hb:Xau h=false:=by unfold Xau;rw[Bool.eq_false_iff];intro e;simp at e;exact hh e
  have LN:Hid (Xbh h=0):=Hd (by unfold Xbh;rw[if_neg (by rw[hb];decide)])
  rw[hb] at P
  clear hb hh
  go_enter Tryz.func64,Tryz.ntmps64
  go_upto_region 1 with fail
  refine wp_region_list ?_
  simp only[]
  refine Xac 35 rfl _ rfl ⟨_,_,rfl,LD.out,?_⟩
  go_wp2_with fail
  refine P.out.mono ?_
  rintro e w1 ⟨rfl,hb1⟩
  have B1:=Hd (B0.out.trans (hb1.mono B0.out.size))
  clear hb1
  go_wp2_with fail
  go_ret
  exact⟨by rw[LN.out];rfl,B1.out⟩
end Go.Proofs.YtohmdledkhgdaaaGreatDoor
