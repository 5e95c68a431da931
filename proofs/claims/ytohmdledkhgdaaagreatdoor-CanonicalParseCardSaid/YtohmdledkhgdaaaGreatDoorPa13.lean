/- The commands' forms (printed by gen_form.py). -/
import Derived.Test.YtohmdledkhgdaaaGreatDoorPa12
import Derived.DeepKeys3
namespace Go.Proofs.YtohmdledkhgdaaaGreatDoor
open Go.RowKit
set_option linter.unusedVariables false
set_option maxRecDepth 100000
theorem Xqt {P:Program} {o:Oper} {a:Act} {w:World} {v:Value} {t:TypeId} {i:Nat} {x:Operand} {vx:Value} (ho:o.op=.build t #[(i,x)]) (hx:a.eval x=vx) (h:(Instr.build t #[(i,vx)]).run P w=.ok v w):
    (execOp a.eval o).run P w=.ok (.value v) w:=Xcr ho (by subst hx;simpa using h)
theorem Xdj {P:Program} {ops:Array Oper} {rest:List Oper} {o:Oper} {a:Act} {w:World} {Q:Exit→Act→World→Prop} (t:TypeId) (hgd:o.guard=none) {i:Nat} (x:Operand) (ho:o.op=.build t #[(i,x)]) (h:∃vx v,a.eval x=vx∧(Instr.build t #[(i,vx)]).run P w=.ok v w∧wpList P ops Q rest (a.put o.dst v) w):wpList P ops Q (o::rest) a w:=by
 obtain⟨vx,v,h1,h2,h3⟩:=h
 exact Xaz hgd (Xqt ho h1 h2) h3
set_option maxHeartbeats 4000000 in
theorem Xya (w:World) (b:Nat) (t:ByteArray) (st en:Nat) (at_:Int) (er:Nat) (h:WS w b t st en at_ er) (hE:Env w) (hb9:9≤b) (ht2:t.size≤1000000):
    Calls Tryz.prog 186 #[.pointer (some ⟨b,0,none⟩)] w (Xcp w b t en er (fun T=>nxt T fun x T=>fe (Xhe x) ((fun T=>nxt T fun x T=>fe (Xhw x) (fin T)) T))):=by
 have ht:t.size≤1000000:=by omega
 obtain⟨zs,hzs⟩:∃zs,zs=Xla 0 Xhd:=⟨_,rfl⟩
 obtain⟨ks,hks⟩:∃ks,ks=Xla 2 Xhd:=⟨_,rfl⟩
 have ZCL:Hid (Cl 56 zs):=Hd (by rw[hzs];exact Xdz 0 _ (by simp[Xhd]) Xej)
 have KCL:Hid (Cl 56 ks):=Hd (by rw[hks];exact Xdz 2 _ (by simp[Xhd]) Xej)
 have BK:Hid (∀w,(Instr.build 152 #[(0,.int .i64 2)]).run Tryz.prog w=.ok (.agg ks) w):=Hd (fun w=>by rw[hks];exact Xfz w 2)
 have hbw:=h.lt
 have STN:Hid (∀zz:Array Value,zz.size=56→(storeVar 152 ⟨w.heap.size+1,0,none⟩ (.agg ks)).run Tryz.prog ((w.alloc (.cells zs 152)).alloc (.cells zz 152))=.ok () ((w.alloc (.cells zs 152)).alloc (.cells ks 152))):=Hd (fun zz hz=>by
  have:=run_storeVar_new (P:=Tryz.prog) (w.alloc (.cells zs 152)) 152 zz ks (by rw[KCL.out.1];exact Xa1) (by rw[hz,KCL.out.1]) KCL.out.2
  rwa [World.size_alloc] at this)
 obtain⟨w0,hw0⟩:∃w0,w0=(w.alloc (.cells zs 152)).alloc (.cells ks 152):=⟨_,rfl⟩
 have bA:Below w.heap.size w (w.alloc (.cells zs 152)):=(Below.refl _ w).alloc (Nat.le_refl _) _
 have b0:Below w.heap.size w w0:=by rw[hw0];exact bA.alloc bA.size _
 have h0:=h.below b0
 have E0:=hE.on b0
 have F0:Hid (Fr1 b w w0):=Hd (Fr1.of_below b0)
 have Z0:Hid (w0.heap[w.heap.size]?=some (.cells zs 152 (0,0))):=Hd (by
  rw[hw0]
  exact(((Below.refl _ (w.alloc (.cells zs 152))).alloc (Nat.le_refl _) _).block w.heap.size (by simp)).trans (heap_alloc_new w _))
 have hm0:MB w0 (w.heap.size+1):=⟨ks,by rw[hw0];have:=heap_alloc_new (w.alloc (.cells zs 152)) (.cells ks 152);rwa [World.size_alloc] at this,KCL.out⟩
 have M0:=Hd hm0
 rw[hzs] at STN
 have HW:Hid (w0=(w.alloc (.cells (Xla 0 Xhd) 152)).alloc (.cells ks 152)):=Hd (by rw[hw0,hzs])
 have H0:=Hd h0;have HE0:=Hd E0
 have HB9:=Hd hb9;have HT:=Hd ht
 clear h hE hzs hks hw0 bA b0 h0 E0 hm0
 have C1:=Hd (Xlg w0 b t st en at_ er H0.out HE0.out hb9 ht)
 go_enter Tryz.func186,Tryz.ntmps186
 go_wp2_with (first
  |((with_reducible refine Xdj 152 rfl _ rfl ?_);refine⟨_,_,rfl,BK.out _,?_⟩)
  |((with_reducible refine Xab 152 rfl _ _ rfl ?_);refine⟨_,_,_,rfl,rfl,STN.out _ rfl,?_⟩))
 have C1':Hid (∀wq,w0=wq→Calls Tryz.prog 185 #[.pointer (some ⟨b,0,none⟩)] wq (Xlc w0 b t en er Xhe fun v=>∃cs,v=.agg cs∧Cl 32 cs)):=Hd (by rintro wq rfl;exact C1.out)
 refine(C1'.out _ HW.out).mono ?_
 clear C1 C1' HW STN BK
 rintro e v1 ⟨v,st1,en1,a1,er1,rfl,⟨cs1,rfl,hcl1⟩,h1,f1,hsl1⟩
 have MV1:=Hd (M0.out.fr f1 (by omega))
 have ZV1:=Hd ((f1.other w.heap.size (lt_of_block Z0.out) (by omega)).trans Z0.out)
 have FV1:=Hd (F0.out.trans f1)
 have EV1:=Hd (Xbr HE0.out hb9 f1)
 have HSL1:=Hd hsl1
 obtain⟨ST1,hm1,ff1⟩:=MV1.out.store 1 32 (by omega) 26 hcl1 Xbf
 obtain⟨y1,hy1⟩:∃y,y=v1.setCells (w.heap.size+1) 1 cs1.toList:=⟨_,rfl⟩
 rw[←hy1] at ST1 hm1 ff1
 have ST1:=Hd ST1
 have M1:=Hd hm1
 have H1:=Hd (h1.fr ff1 (by omega))
 have F1:=Hd (FV1.out.new ff1 (by omega))
 have Z1:=Hd ((ff1.other w.heap.size (lt_of_block ZV1.out) (by omega)).trans ZV1.out)
 have HE1:=Hd (Xbr EV1.out (by have:=HB9.out;have:=hbw;omega) ff1)
 have HY1:=Hd hy1
 clear h1 f1 hsl1 ff1 hy1 hm1 hcl1
 have C2:=Hd (Xke y1 b t st1 en1 a1 er1 H1.out HE1.out hb9 ht)
 go_wp2_with ((with_reducible refine Xab 26 rfl _ _ rfl ?_);refine⟨_,_,_,rfl,rfl,ST1.out,?_⟩)
 refine C2.out.mono ?_
 rintro e v2 ⟨v,st2,en2,a2,er2,rfl,⟨s2,rfl,hsz2⟩,h2,f2,hsl2⟩
 have MV2:=Hd (M1.out.fr f2 (by omega))
 have ZV2:=Hd ((f2.other w.heap.size (lt_of_block Z1.out) (by omega)).trans Z1.out)
 have FV2:=Hd (F1.out.trans f2)
 have EV2:=Hd (Xbr HE1.out hb9 f2)
 have HSL2:=Hd hsl2
 obtain⟨u2,hc2,hf2⟩:=MV2.out.cell (j:=33) (by omega)
 obtain⟨y2,hy2⟩:∃y,y=v2.setCell ⟨w.heap.size+1,33,none⟩ (.string s2):=⟨_,rfl⟩
 have M2:Hid (MB y2 (w.heap.size+1)):=Hd (by rw[hy2];exact MV2.out.setCell 33 rfl)
 have ff2:Fr1 (w.heap.size+1) v2 y2:=by rw[hy2];exact Fr1.setC _
 have H2:=Hd (h2.fr ff2 (by omega))
 have F2:=Hd (FV2.out.new ff2 (by omega))
 have Z2:=Hd ((ff2.other w.heap.size (lt_of_block ZV2.out) (by omega)).trans ZV2.out)
 have HE2:=Hd (Xbr EV2.out (by have:=HB9.out;have:=hbw;omega) ff2)
 have HY2:=Hd hy2
 clear h2 f2 hsl2 ff2 hy2
 obtain⟨cs,hp,hcl⟩:=M2.out
 have LD:=Hd (Xal y2 (w.heap.size+1) 56 _ _ cs _ _ hp rfl Tryz.underlying152 Xa1 hcl.1)
 have ST:=Hd (run_storeVar_row (P:=Tryz.prog) y2 w.heap.size _ 152 zs cs Z2.out (by rw[hcl.1];exact Xa1) (by rw[hcl.1,ZCL.out.1]) hcl.2)
 have W2:=Hd (setRow_heap y2 w.heap.size zs cs _ _ Z2.out)
 have CSZ:Hid (cs.size=56):=Hd hcl.1
 have POST:Hid (Xcp w b t en er (fun T=>nxt T fun x T=>fe (Xhe x) ((fun T=>nxt T fun x T=>fe (Xhw x) (fin T)) T)) (.returned (.agg cs)) (y2.setRow w.heap.size cs)):=Hd ⟨cs,st2,en2,a2,er2,rfl,hcl,H2.out.row (by omega) cs,F2.out.row (Nat.le_refl _) cs,((HSL1.out (fun T=>nxt T fun x T=>fe (Xhw x) (fin T))).trans (HSL2.out fin)).symm⟩
 clear hp hcl
 go_upto_region 4 with fail
 rw[←HY2.out]
 refine wp_region_list ?_
 simp only[]
 refine Xac 152 rfl _ rfl ⟨_,_,rfl,LD.out,?_⟩
 go_wp2_with ((with_reducible refine Xab 152 rfl _ _ rfl ?_);refine⟨_,_,_,rfl,rfl,ST.out,?_⟩)
 exact bodyPost_ret (results_cell_row Tryz.results186 _ _ w.heap.size _ _ _ _ rfl W2.out Tryz.underlying152 rfl (by rw[CSZ.out];exact Xa1)) rfl POST.out
set_option maxHeartbeats 4000000 in
theorem Xx8 (w:World) (b:Nat) (t:ByteArray) (st en:Nat) (at_:Int) (er:Nat) (h:WS w b t st en at_ er) (hE:Env w) (hb9:9≤b) (ht2:t.size≤1000000):
    Calls Tryz.prog 192 #[.pointer (some ⟨b,0,none⟩)] w (Xcp w b t en er (fun T=>nxt T fun x T=>fe (Xhw x) ((fun T=>nxt T fun x T=>fe ((Xe1 0 1000000) x) (fin T)) T))):=by
 have ht:t.size≤1000000:=by omega
 obtain⟨zs,hzs⟩:∃zs,zs=Xla 0 Xhd:=⟨_,rfl⟩
 obtain⟨ks,hks⟩:∃ks,ks=Xla 4 Xhd:=⟨_,rfl⟩
 have ZCL:Hid (Cl 56 zs):=Hd (by rw[hzs];exact Xdz 0 _ (by simp[Xhd]) Xej)
 have KCL:Hid (Cl 56 ks):=Hd (by rw[hks];exact Xdz 4 _ (by simp[Xhd]) Xej)
 have BK:Hid (∀w,(Instr.build 152 #[(0,.int .i64 4)]).run Tryz.prog w=.ok (.agg ks) w):=Hd (fun w=>by rw[hks];exact Xfz w 4)
 have hbw:=h.lt
 have STN:Hid (∀zz:Array Value,zz.size=56→(storeVar 152 ⟨w.heap.size+1,0,none⟩ (.agg ks)).run Tryz.prog ((w.alloc (.cells zs 152)).alloc (.cells zz 152))=.ok () ((w.alloc (.cells zs 152)).alloc (.cells ks 152))):=Hd (fun zz hz=>by
  have:=run_storeVar_new (P:=Tryz.prog) (w.alloc (.cells zs 152)) 152 zz ks (by rw[KCL.out.1];exact Xa1) (by rw[hz,KCL.out.1]) KCL.out.2
  rwa [World.size_alloc] at this)
 obtain⟨w0,hw0⟩:∃w0,w0=(w.alloc (.cells zs 152)).alloc (.cells ks 152):=⟨_,rfl⟩
 have bA:Below w.heap.size w (w.alloc (.cells zs 152)):=(Below.refl _ w).alloc (Nat.le_refl _) _
 have b0:Below w.heap.size w w0:=by rw[hw0];exact bA.alloc bA.size _
 have h0:=h.below b0
 have E0:=hE.on b0
 have F0:Hid (Fr1 b w w0):=Hd (Fr1.of_below b0)
 have Z0:Hid (w0.heap[w.heap.size]?=some (.cells zs 152 (0,0))):=Hd (by
  rw[hw0]
  exact(((Below.refl _ (w.alloc (.cells zs 152))).alloc (Nat.le_refl _) _).block w.heap.size (by simp)).trans (heap_alloc_new w _))
 have hm0:MB w0 (w.heap.size+1):=⟨ks,by rw[hw0];have:=heap_alloc_new (w.alloc (.cells zs 152)) (.cells ks 152);rwa [World.size_alloc] at this,KCL.out⟩
 have M0:=Hd hm0
 rw[hzs] at STN
 have HW:Hid (w0=(w.alloc (.cells (Xla 0 Xhd) 152)).alloc (.cells ks 152)):=Hd (by rw[hw0,hzs])
 have H0:=Hd h0;have HE0:=Hd E0
 have HB9:=Hd hb9;have HT:=Hd ht
 clear h hE hzs hks hw0 bA b0 h0 E0 hm0
 have C1:=Hd (Xke w0 b t st en at_ er H0.out HE0.out hb9 ht)
 go_enter Tryz.func192,Tryz.ntmps192
 go_wp2_with (first
  |((with_reducible refine Xdj 152 rfl _ rfl ?_);refine⟨_,_,rfl,BK.out _,?_⟩)
  |((with_reducible refine Xab 152 rfl _ _ rfl ?_);refine⟨_,_,_,rfl,rfl,STN.out _ rfl,?_⟩))
 have C1':Hid (∀wq,w0=wq→Calls Tryz.prog 187 #[.pointer (some ⟨b,0,none⟩)] wq (Xlc w0 b t en er Xhw fun v=>∃s,v=.string s∧s.size≤t.size)):=Hd (by rintro wq rfl;exact C1.out)
 refine(C1'.out _ HW.out).mono ?_
 clear C1 C1' HW STN BK
 rintro e v1 ⟨v,st1,en1,a1,er1,rfl,⟨s1,rfl,hsz1⟩,h1,f1,hsl1⟩
 have MV1:=Hd (M0.out.fr f1 (by omega))
 have ZV1:=Hd ((f1.other w.heap.size (lt_of_block Z0.out) (by omega)).trans Z0.out)
 have FV1:=Hd (F0.out.trans f1)
 have EV1:=Hd (Xbr HE0.out hb9 f1)
 have HSL1:=Hd hsl1
 obtain⟨u1,hc1,hf1⟩:=MV1.out.cell (j:=33) (by omega)
 obtain⟨y1,hy1⟩:∃y,y=v1.setCell ⟨w.heap.size+1,33,none⟩ (.string s1):=⟨_,rfl⟩
 have M1:Hid (MB y1 (w.heap.size+1)):=Hd (by rw[hy1];exact MV1.out.setCell 33 rfl)
 have ff1:Fr1 (w.heap.size+1) v1 y1:=by rw[hy1];exact Fr1.setC _
 have H1:=Hd (h1.fr ff1 (by omega))
 have F1:=Hd (FV1.out.new ff1 (by omega))
 have Z1:=Hd ((ff1.other w.heap.size (lt_of_block ZV1.out) (by omega)).trans ZV1.out)
 have HE1:=Hd (Xbr EV1.out (by have:=HB9.out;have:=hbw;omega) ff1)
 have HY1:=Hd hy1
 clear h1 f1 hsl1 ff1 hy1
 have C2:=Hd (Xhp y1 b t st1 en1 a1 er1 H1.out HE1.out hb9 ht 0 1000000 (by omega) (by omega))
 go_wp2_with fail
 rw[←HY1.out]
 refine C2.out.mono ?_
 rintro e v2 ⟨v,st2,en2,a2,er2,rfl,⟨n2,rfl⟩,h2,f2,hsl2⟩
 have MV2:=Hd (M1.out.fr f2 (by omega))
 have ZV2:=Hd ((f2.other w.heap.size (lt_of_block Z1.out) (by omega)).trans Z1.out)
 have FV2:=Hd (F1.out.trans f2)
 have EV2:=Hd (Xbr HE1.out hb9 f2)
 have HSL2:=Hd hsl2
 obtain⟨u2,hc2,hf2⟩:=MV2.out.cell (j:=34) (by omega)
 obtain⟨y2,hy2⟩:∃y,y=v2.setCell ⟨w.heap.size+1,34,none⟩ (.int .i64 n2):=⟨_,rfl⟩
 have M2:Hid (MB y2 (w.heap.size+1)):=Hd (by rw[hy2];exact MV2.out.setCell 34 rfl)
 have ff2:Fr1 (w.heap.size+1) v2 y2:=by rw[hy2];exact Fr1.setC _
 have H2:=Hd (h2.fr ff2 (by omega))
 have F2:=Hd (FV2.out.new ff2 (by omega))
 have Z2:=Hd ((ff2.other w.heap.size (lt_of_block ZV2.out) (by omega)).trans ZV2.out)
 have HE2:=Hd (Xbr EV2.out (by have:=HB9.out;have:=hbw;omega) ff2)
 have HY2:=Hd hy2
 clear h2 f2 hsl2 ff2 hy2
 obtain⟨cs,hp,hcl⟩:=M2.out
 have LD:=Hd (Xal y2 (w.heap.size+1) 56 _ _ cs _ _ hp rfl Tryz.underlying152 Xa1 hcl.1)
 have ST:=Hd (run_storeVar_row (P:=Tryz.prog) y2 w.heap.size _ 152 zs cs Z2.out (by rw[hcl.1];exact Xa1) (by rw[hcl.1,ZCL.out.1]) hcl.2)
 have W2:=Hd (setRow_heap y2 w.heap.size zs cs _ _ Z2.out)
 have CSZ:Hid (cs.size=56):=Hd hcl.1
 have POST:Hid (Xcp w b t en er (fun T=>nxt T fun x T=>fe (Xhw x) ((fun T=>nxt T fun x T=>fe ((Xe1 0 1000000) x) (fin T)) T)) (.returned (.agg cs)) (y2.setRow w.heap.size cs)):=Hd ⟨cs,st2,en2,a2,er2,rfl,hcl,H2.out.row (by omega) cs,F2.out.row (Nat.le_refl _) cs,((HSL1.out (fun T=>nxt T fun x T=>fe ((Xe1 0 1000000) x) (fin T))).trans (HSL2.out fin)).symm⟩
 clear hp hcl
 go_upto_region 4 with fail
 rw[←HY2.out]
 refine wp_region_list ?_
 simp only[]
 refine Xac 152 rfl _ rfl ⟨_,_,rfl,LD.out,?_⟩
 go_wp2_with ((with_reducible refine Xab 152 rfl _ _ rfl ?_);refine⟨_,_,_,rfl,rfl,ST.out,?_⟩)
 exact bodyPost_ret (results_cell_row Tryz.results192 _ _ w.heap.size _ _ _ _ rfl W2.out Tryz.underlying152 rfl (by rw[CSZ.out];exact Xa1)) rfl POST.out
set_option maxHeartbeats 4000000 in
theorem Xx7 (w:World) (b:Nat) (t:ByteArray) (st en:Nat) (at_:Int) (er:Nat) (h:WS w b t st en at_ er) (hE:Env w) (hb9:9≤b) (ht2:t.size≤1000000):
    Calls Tryz.prog 193 #[.pointer (some ⟨b,0,none⟩)] w (Xcp w b t en er (fun T=>nxt T fun x T=>fe ((Xe1 1 1000) x) ((fun T=>nxt T fun x T=>fe (Xf5 x) (fin T)) T))):=by
 have ht:t.size≤1000000:=by omega
 obtain⟨zs,hzs⟩:∃zs,zs=Xla 0 Xhd:=⟨_,rfl⟩
 obtain⟨ks,hks⟩:∃ks,ks=Xla 5 Xhd:=⟨_,rfl⟩
 have ZCL:Hid (Cl 56 zs):=Hd (by rw[hzs];exact Xdz 0 _ (by simp[Xhd]) Xej)
 have KCL:Hid (Cl 56 ks):=Hd (by rw[hks];exact Xdz 5 _ (by simp[Xhd]) Xej)
 have BK:Hid (∀w,(Instr.build 152 #[(0,.int .i64 5)]).run Tryz.prog w=.ok (.agg ks) w):=Hd (fun w=>by rw[hks];exact Xfz w 5)
 have hbw:=h.lt
 have STN:Hid (∀zz:Array Value,zz.size=56→(storeVar 152 ⟨w.heap.size+1,0,none⟩ (.agg ks)).run Tryz.prog ((w.alloc (.cells zs 152)).alloc (.cells zz 152))=.ok () ((w.alloc (.cells zs 152)).alloc (.cells ks 152))):=Hd (fun zz hz=>by
  have:=run_storeVar_new (P:=Tryz.prog) (w.alloc (.cells zs 152)) 152 zz ks (by rw[KCL.out.1];exact Xa1) (by rw[hz,KCL.out.1]) KCL.out.2
  rwa [World.size_alloc] at this)
 obtain⟨w0,hw0⟩:∃w0,w0=(w.alloc (.cells zs 152)).alloc (.cells ks 152):=⟨_,rfl⟩
 have bA:Below w.heap.size w (w.alloc (.cells zs 152)):=(Below.refl _ w).alloc (Nat.le_refl _) _
 have b0:Below w.heap.size w w0:=by rw[hw0];exact bA.alloc bA.size _
 have h0:=h.below b0
 have E0:=hE.on b0
 have F0:Hid (Fr1 b w w0):=Hd (Fr1.of_below b0)
 have Z0:Hid (w0.heap[w.heap.size]?=some (.cells zs 152 (0,0))):=Hd (by
  rw[hw0]
  exact(((Below.refl _ (w.alloc (.cells zs 152))).alloc (Nat.le_refl _) _).block w.heap.size (by simp)).trans (heap_alloc_new w _))
 have hm0:MB w0 (w.heap.size+1):=⟨ks,by rw[hw0];have:=heap_alloc_new (w.alloc (.cells zs 152)) (.cells ks 152);rwa [World.size_alloc] at this,KCL.out⟩
 have M0:=Hd hm0
 rw[hzs] at STN
 have HW:Hid (w0=(w.alloc (.cells (Xla 0 Xhd) 152)).alloc (.cells ks 152)):=Hd (by rw[hw0,hzs])
 have H0:=Hd h0;have HE0:=Hd E0
 have HB9:=Hd hb9;have HT:=Hd ht
 clear h hE hzs hks hw0 bA b0 h0 E0 hm0
 have C1:=Hd (Xhp w0 b t st en at_ er H0.out HE0.out hb9 ht 1 1000 (by omega) (by omega))
 go_enter Tryz.func193,Tryz.ntmps193
 go_wp2_with (first
  |((with_reducible refine Xdj 152 rfl _ rfl ?_);refine⟨_,_,rfl,BK.out _,?_⟩)
  |((with_reducible refine Xab 152 rfl _ _ rfl ?_);refine⟨_,_,_,rfl,rfl,STN.out _ rfl,?_⟩))
 have C1':Hid (∀wq,w0=wq→Calls Tryz.prog 189 #[.pointer (some ⟨b,0,none⟩),.int .i64 ((1:Nat):Int),.int .i64 ((1000:Nat):Int)] wq (Xlc w0 b t en er (Xe1 1 1000) fun v=>∃n:Int,v=.int .i64 n)):=Hd (by rintro wq rfl;exact C1.out)
 refine(C1'.out _ HW.out).mono ?_
 clear C1 C1' HW STN BK
 rintro e v1 ⟨v,st1,en1,a1,er1,rfl,⟨n1,rfl⟩,h1,f1,hsl1⟩
 have MV1:=Hd (M0.out.fr f1 (by omega))
 have ZV1:=Hd ((f1.other w.heap.size (lt_of_block Z0.out) (by omega)).trans Z0.out)
 have FV1:=Hd (F0.out.trans f1)
 have EV1:=Hd (Xbr HE0.out hb9 f1)
 have HSL1:=Hd hsl1
 obtain⟨u1,hc1,hf1⟩:=MV1.out.cell (j:=38) (by omega)
 obtain⟨y1,hy1⟩:∃y,y=v1.setCell ⟨w.heap.size+1,38,none⟩ (.int .i64 n1):=⟨_,rfl⟩
 have M1:Hid (MB y1 (w.heap.size+1)):=Hd (by rw[hy1];exact MV1.out.setCell 38 rfl)
 have ff1:Fr1 (w.heap.size+1) v1 y1:=by rw[hy1];exact Fr1.setC _
 have H1:=Hd (h1.fr ff1 (by omega))
 have F1:=Hd (FV1.out.new ff1 (by omega))
 have Z1:=Hd ((ff1.other w.heap.size (lt_of_block ZV1.out) (by omega)).trans ZV1.out)
 have HE1:=Hd (Xbr EV1.out (by have:=HB9.out;have:=hbw;omega) ff1)
 have HY1:=Hd hy1
 clear h1 f1 hsl1 ff1 hy1
 have C2:=Hd (Xt5 y1 b t st1 en1 a1 er1 H1.out HE1.out hb9 ht)
 go_wp2_with fail
 rw[←HY1.out]
 refine C2.out.mono ?_
 rintro e v2 ⟨v,st2,en2,a2,er2,rfl,⟨cs2,rfl,hcl2⟩,h2,f2,hsl2⟩
 have MV2:=Hd (M1.out.fr f2 (by omega))
 have ZV2:=Hd ((f2.other w.heap.size (lt_of_block Z1.out) (by omega)).trans Z1.out)
 have FV2:=Hd (F1.out.trans f2)
 have EV2:=Hd (Xbr HE1.out hb9 f2)
 have HSL2:=Hd hsl2
 obtain⟨ST2,hm2,ff2⟩:=MV2.out.store 39 17 (by omega) 35 hcl2 Xcw
 obtain⟨y2,hy2⟩:∃y,y=v2.setCells (w.heap.size+1) 39 cs2.toList:=⟨_,rfl⟩
 rw[←hy2] at ST2 hm2 ff2
 have ST2:=Hd ST2
 have M2:=Hd hm2
 have H2:=Hd (h2.fr ff2 (by omega))
 have F2:=Hd (FV2.out.new ff2 (by omega))
 have Z2:=Hd ((ff2.other w.heap.size (lt_of_block ZV2.out) (by omega)).trans ZV2.out)
 have HE2:=Hd (Xbr EV2.out (by have:=HB9.out;have:=hbw;omega) ff2)
 have HY2:=Hd hy2
 clear h2 f2 hsl2 ff2 hy2 hm2 hcl2
 obtain⟨cs,hp,hcl⟩:=M2.out
 have LD:=Hd (Xal y2 (w.heap.size+1) 56 _ _ cs _ _ hp rfl Tryz.underlying152 Xa1 hcl.1)
 have ST:=Hd (run_storeVar_row (P:=Tryz.prog) y2 w.heap.size _ 152 zs cs Z2.out (by rw[hcl.1];exact Xa1) (by rw[hcl.1,ZCL.out.1]) hcl.2)
 have W2:=Hd (setRow_heap y2 w.heap.size zs cs _ _ Z2.out)
 have CSZ:Hid (cs.size=56):=Hd hcl.1
 have POST:Hid (Xcp w b t en er (fun T=>nxt T fun x T=>fe ((Xe1 1 1000) x) ((fun T=>nxt T fun x T=>fe (Xf5 x) (fin T)) T)) (.returned (.agg cs)) (y2.setRow w.heap.size cs)):=Hd ⟨cs,st2,en2,a2,er2,rfl,hcl,H2.out.row (by omega) cs,F2.out.row (Nat.le_refl _) cs,((HSL1.out (fun T=>nxt T fun x T=>fe (Xf5 x) (fin T))).trans (HSL2.out fin)).symm⟩
 clear hp hcl
 go_upto_region 4 with((with_reducible refine Xab 35 rfl _ _ rfl ?_);refine⟨_,_,_,rfl,rfl,ST2.out,?_⟩)
 refine wp_region_list ?_
 simp only[]
 refine Xac 152 rfl _ rfl ⟨_,_,rfl,LD.out,?_⟩
 go_wp2_with ((with_reducible refine Xab 152 rfl _ _ rfl ?_);refine⟨_,_,_,rfl,rfl,ST.out,?_⟩)
 exact bodyPost_ret (results_cell_row Tryz.results193 _ _ w.heap.size _ _ _ _ rfl W2.out Tryz.underlying152 rfl (by rw[CSZ.out];exact Xa1)) rfl POST.out
theorem Yjl (w:World):Calls Tryz.prog 183 #[.int .i64 1] w fun e w'=>e=.returned (.string ⟨#[99,97,110,99,101,108]⟩)∧w'=w:=by
 go_enter Tryz.func183,Tryz.ntmps183
 go_wp2_with fail
 go_ret
 exact⟨rfl,rfl⟩
theorem Yjk (w:World):Calls Tryz.prog 183 #[.int .i64 2] w fun e w'=>e=.returned (.string ⟨#[97,112,112,114,111,118,101]⟩)∧w'=w:=by
 go_enter Tryz.func183,Tryz.ntmps183
 go_wp2_with fail
 go_ret
 exact⟨rfl,rfl⟩
theorem Yjj (w:World):Calls Tryz.prog 183 #[.int .i64 3] w fun e w'=>e=.returned (.string ⟨#[100,101,102,105,110,101]⟩)∧w'=w:=by
 go_enter Tryz.func183,Tryz.ntmps183
 go_wp2_with fail
 go_ret
 exact⟨rfl,rfl⟩
theorem Yji (w:World):Calls Tryz.prog 183 #[.int .i64 4] w fun e w'=>e=.returned (.string ⟨#[114,101,109,111,118,101]⟩)∧w'=w:=by
 go_enter Tryz.func183,Tryz.ntmps183
 go_wp2_with fail
 go_ret
 exact⟨rfl,rfl⟩
theorem Yjh (w:World):Calls Tryz.prog 183 #[.int .i64 5] w fun e w'=>e=.returned (.string ⟨#[114,101,107,101,121]⟩)∧w'=w:=by
 go_enter Tryz.func183,Tryz.ntmps183
 go_wp2_with fail
 go_ret
 exact⟨rfl,rfl⟩
end Go.Proofs.YtohmdledkhgdaaaGreatDoor
/- A map from identities to truth values that the program makes and fills. -/
namespace Go.Proofs.YtohmdledkhgdaaaGreatDoor
open Go.RowKit Go.Maps
open Go.ChangeMaps (setBlock heap_setBlock_same heap_setBlock_other)
set_option linter.unusedVariables false
set_option maxRecDepth 100000
def meS (k:Nat) (ids:List (List Nat)):List MapEntry:=(ids.zipIdx k).map fun p=>{key:=.agg (idA p.1),val:=.bool true,born:=p.2}
def MId (w:World) (b:Nat) (ids:List (List Nat)):Prop:=w.heap[b]?=some (.map (meS 0 ids).toArray ids.length)
theorem MId.lt {w:World} {b:Nat} {ids:List (List Nat)} (h:MId w b ids):b<w.heap.size:=lt_of_block h
theorem MId.below {w w':World} {b:Nat} {ids:List (List Nat)} (h:MId w b ids) (hb:Below w.heap.size w w'):MId w' b ids:=(hb.block b h.lt).trans h
theorem MId.made (w:World):MId (w.alloc (.map #[] 0)) w.heap.size []:=heap_alloc_new w _
theorem Ybh (ids:List (List Nat)) (x:List Nat):meS 0 (ids++[x])=meS 0 ids++[{key:=.agg (idA x),val:=.bool true,born:=ids.length}]:=by
 simp[meS,List.zipIdx_append]
theorem Xm9 (w:World) (em:Bool) {x:List Nat} (hx:IdOk x):(Instr.checkKey em 10000 26 (.agg (idA x))).run Tryz.prog w=.ok () w:=
 run_checkKey_deep em 9997 3 26 (by kernel_rfl) w 2 (.agg (idA x)) (Xco x) (by simp[Value.formed,Tryz.underlying26,Xna,Xag,hx.len]) (Xqc 0 hx)
theorem Xks (w:World) {x:List Nat} (hx:IdOk x):∀(ids:List (List Nat)) (k i:Nat),(∀y∈ids,IdOk y)→
    ∃r,(Instr.findAsking 26 (.agg (idA x)) (meS k ids) i).run Tryz.prog w=.ok r w∧((x∉ids∧r=none)∨(x∈ids∧∃j,r=some (j,.bool true)))
 |[],_,_,_=>⟨none,rfl,.inl ⟨by simp,rfl⟩⟩
 |y::ids,k,i,hy=>by
  have he:=Xuw w hx (hy y (by simp))
  by_cases h:x=y
  ·subst h
   refine⟨some (i,.bool true),?_,.inr ⟨by simp,i,rfl⟩⟩
   simp only[meS,List.zipIdx_cons,List.map_cons,Instr.findAsking,Sem.run_bind,he,Result.andThen_ok]
   simp
  ·obtain⟨r,h1,h2⟩:=Xks w hx ids (k+1) (i+1) (fun z hz=>hy z (by simp[hz]))
   refine⟨r,?_,?_⟩
   ·simp only[meS,List.zipIdx_cons,List.map_cons,Instr.findAsking,Sem.run_bind,he,Result.andThen_ok,decide_eq_false h]
    exact h1
   ·simpa [h] using h2
theorem Xhx (w:World) (k:Value) (es:List MapEntry):(Instr.findKey 26 k es).run Tryz.prog w=(Instr.findAsking 26 k es).run Tryz.prog w:=by
 unfold Instr.findKey
 rw[Sem.run_bind,run_underlying Tryz.underlying26]
 cases es with
 |nil=>rfl
 |cons e es=>rfl
section
variable (w:World) {b:Nat} {ids:List (List Nat)} (h:MId w b ids) (hi:∀y∈ids,IdOk y) {x:List Nat} (hx:IdOk x)
include h hi hx
theorem Xxb:(Instr.lookup 148 (.map (some b)) (.agg (idA x)) false).run Tryz.prog w=.ok (.bool (decide (x∈ids))) w:=by
 obtain⟨r,h1,h2⟩:=Xks w hx ids 0 0 hi
 have z:(zeroValue 4).run Tryz.prog w=.ok (.bool false) w:=by kernel_rfl
 rcases h2 with⟨h2,rfl⟩|⟨h2,j,rfl⟩
 ·simp[Instr.lookup,run_underlying Tryz.underlying148,MapKept.run_getObj_map h,Xm9 w _ hx,Xhx,h1,z,Result.andThen,h2]
 ·simp[Instr.lookup,run_underlying Tryz.underlying148,MapKept.run_getObj_map h,Xm9 w _ hx,Xhx,h1,Result.andThen,h2]
theorem Xvt (hn:x∉ids):∃w',(Instr.mapUpdate 148 (.map (some b)) (.agg (idA x)) (.bool true)).run Tryz.prog w=.ok () w'∧MId w' b (ids++[x])∧w.grownBy w' (some b):=by
 obtain⟨r,h1,h2⟩:=Xks w hx ids 0 0 hi
 rcases h2 with⟨_,rfl⟩|⟨h2,_⟩
 ·refine⟨setBlock w b (.map ((meS 0 ids).toArray.push {key:=.agg (idA x),val:=.bool true,born:=ids.length}) (ids.length+1)),by simp[Instr.mapUpdate,run_underlying Tryz.underlying148,MapKept.run_getObj_map h,Xm9 w _ hx,Xhx,h1,MapKept.run_setObj_map _ h,Result.andThen,setBlock],?_,?_⟩
  ·unfold MId
   rw[Ybh,heap_setBlock_same h]
   simp
  ·exact⟨rfl,rfl,rfl,by simp[setBlock],fun i _ hi=>heap_setBlock_other h _ (fun e=>hi (by rw[e]))⟩
 ·exact absurd h2 hn
end
end Go.Proofs.YtohmdledkhgdaaaGreatDoor
/- strings.Join; groupname.FormatList. -/
namespace Go.Proofs.YtohmdledkhgdaaaGreatDoor
open Go.RowKit
set_option linter.unusedVariables false
set_option maxRecDepth 100000
def Xtg (c:Nat) (ls:List (List Nat)) (w:World) (e:Ending) (w':World):Prop:=∃t:ByteArray,e=.returned (.string t)∧bs t=Xa0 [c] ls∧Below w.heap.size w w'
theorem Xss (w:World) (v:Value) (gs:List ByteArray) (c:UInt8) (hr:SRow w v gs) (hl:gs.length≤1000000) (hlen:(Xa0 [c.toNat] (gs.map bs)).length≤140737488355328):
    Calls Tryz.prog 95 #[v,.string ⟨#[c]⟩] w (Xtg c.toNat (gs.map bs) w):=by
 have hj:∀l:List ByteArray,(Lib.join (l.map (·.data.toList)) [c]).map UInt8.toNat=Xa0 [c.toNat] (l.map bs):=by
  intro l
  have:=Xuo [c] (l.map (·.data.toList))
  rw[List.map_map] at this
  exact this
 obtain⟨a,cap,rfl,hcap,hcells⟩:=hr
 by_cases h0:gs=[]
 ·subst h0
  exact(Xf6 a cap ⟨#[c]⟩ w).mono fun e w' h=>⟨⟨#[]⟩,h.1,rfl,by rw[h.2];exact Below.refl _ _⟩
 ·obtain⟨b,off,rfl,hb,hcl⟩:=hcells h0
  refine(Xj0 b off cap gs ⟨#[c]⟩ w (fun j x hx=>?_) hb (by omega) hcap ?_).mono fun e w' h=>⟨_,h.1,?_,h.2⟩
  ·obtain⟨hj',rfl⟩:=List.getElem?_eq_some_iff.1 hx
   exact hcl j hj'
  ·have:=congrArg List.length (hj gs)
   rw[List.length_map] at this
   show(Lib.join (gs.map (·.data.toList)) [c]).length≤_
   rw[this];exact hlen
  ·rw[Xip];exact hj gs
theorem Xlp {f:List Nat→Nat} {d:Nat} (hd:d≠0):∀(r pre:List (List Nat)),Xcz f d pre r=0→∀x∈r,f x=0
 |[],_,_,x,hx=>by simp at hx
 |y::r,pre,h,x,hx=>by
  rw[Xcz] at h
  by_cases h1:f y=0
  ·rw[if_neg (by simpa using h1)] at h
   split at h
   ·exact absurd h hd
   ·rcases List.mem_cons.1 hx with rfl|hx
    ·exact h1
    ·exact Xlp hd r _ h x hx
  ·rw[if_pos h1] at h;exact absurd h h1
theorem Xlq {f:List Nat→Nat} {l:List (List Nat)} (h:Xcc f l=0):l.length≤20∧∀x∈l,f x=0:=by
 unfold Xcc at h
 by_cases h1:20<l.length
 ·rw[if_pos h1] at h;omega
 ·rw[if_neg h1] at h;exact⟨by omega,Xlp (by decide) _ _ h⟩
theorem Xub {x:List Nat} (h:Xbg x=0):x.length≤80:=by
 unfold Xbg at h
 by_cases h1:80<x.length
 ·rw[if_pos h1] at h;omega
 ·omega
theorem Xj6 (m:Nat) (c:Nat):∀l:List (List Nat),(∀x∈l,x.length≤m)→(Xa0 [c] l).length≤l.length*(m+1)
 |[],_=>by simp[Xa0]
 |[x],h=>by have:=h x (by simp);simp[Xa0];omega
 |x::y::r,h=>by
  have h1:=h x (by simp)
  have h2:=Xj6 m c (y::r) (fun z hz=>h z (by simp[hz]))
  rw[Xa0]
  simp only[List.length_append,List.length_cons,List.length_nil] at h2⊢
  rw[Nat.succ_mul];omega
def Xrj (err:Nat) (text:List Nat) (w:World) (e:Ending) (w':World):Prop:=
 ∃t:ByteArray,e=.returned (.tuple #[.string t,.int .i64 (err:Nat)])∧(err=0→bs t=text)∧(err≠0→t=⟨#[]⟩)∧Below w.heap.size w w'
set_option maxHeartbeats 1000000 in
theorem Xov (w:World) (v:Value) (gs:List ByteArray) (hr:SRow w v gs) (hl:gs.length≤1000000) (hz:∀g∈gs,g.size≤1000000) (hE:Env w):
    Calls Tryz.prog 52 #[v] w (Xrj (Xbp (gs.map bs)) (Xa0 [44] (gs.map bs)) w):=by
 by_cases h0:gs=[]
 ·subst h0
  obtain⟨a,cap,rfl,_,_⟩:=hr
  clear hl hz hE
  go_enter Tryz.func52,Tryz.ntmps52
  go_wp2_with fail
  go_ret2
  exact⟨⟨#[]⟩,rfl,(fun h=>by cases h),(fun _=>rfl),Below.refl _ _⟩
 ·have hv:∃a cap,v=.slice a gs.length cap:=by obtain⟨a,cap,h,_⟩:=hr;exact⟨a,cap,h⟩
  obtain⟨a,cap,rfl⟩:=hv
  have hn0:gs.length≠0:=fun e=>h0 (List.length_eq_zero_iff.1 e)
  have C:=Hd (Xo9 w _ gs hr hl hz hE)
  have G:Hid (Xbp (gs.map bs)=Xcc Xbg (gs.map bs)):=Hd (by unfold Xbp;rw[if_neg (by simpa using h0)])
  have HR:=Hd hr
  have J:Hid (∀w',Below w.heap.size w w'→Xcc Xbg (gs.map bs)=0→Calls Tryz.prog 95 #[.slice a gs.length cap,.string ⟨#[44]⟩] w' (Xtg 44 (gs.map bs) w')):=Hd (fun w' hb h=>by
   obtain⟨q1,q2⟩:=Xlq h
   have:=Xj6 80 44 (gs.map bs) (fun x hx=>Xub (q2 x hx))
   exact Xss w' _ gs 44 (hr.below hb) hl (by show(Xa0 [44] (gs.map bs)).length≤_;omega))
  obtain⟨n,hn⟩:∃n,n=gs.length:=⟨_,rfl⟩
  rw[←hn] at hn0 C J⊢
  have qn:((n:Int)==0)=false:=Xak (by omega)
  obtain⟨m,hm⟩:∃m,m=Xcc Xbg (gs.map bs):=⟨_,rfl⟩
  rw[←hm] at C G J
  rw[G.out]
  clear hr hl hz hE hn hn0 hm h0
  go_enter Tryz.func52,Tryz.ntmps52
  go_wp2_with fail
  refine C.out.mono ?_
  rintro e w1 ⟨rfl,hb1⟩
  have B1:=Hd hb1
  clear hb1 C
  by_cases m0:m=0
  ·have q0:((m:Int) !=0)=false:=Xat (by omega)
   have K:=Hd (J.out w1 B1.out m0)
   have M0:=Hd m0
   clear m0 J
   go_wp2_with fail
   refine K.out.mono ?_
   rintro e w2 ⟨t,rfl,ht,hb2⟩
   have B2:=Hd (B1.out.trans (hb2.mono B1.out.size))
   have HT:=Hd ht
   clear hb2 ht K
   go_wp2_with fail
   go_ret2
   exact⟨t,by rw[M0.out];rfl,(fun _=>HT.out),(fun h=>absurd M0.out h),B2.out⟩
  ·have q0:((m:Int) !=0)=true:=Xam (by omega)
   have M0:=Hd m0
   clear m0 J
   go_wp2_with fail
   go_ret2
   exact⟨⟨#[]⟩,rfl,(fun h=>absurd h M0.out),(fun _=>rfl),B1.out⟩
end Go.Proofs.YtohmdledkhgdaaaGreatDoor
/- references.checkNext, Check. -/
namespace Go.Proofs.YtohmdledkhgdaaaGreatDoor
open Go.RowKit
set_option linter.unusedVariables false
set_option maxRecDepth 100000
section
variable {P:Program} {ops:Array Oper} {rest:List Oper} {o:Oper} {a:Act} {w w':World} {Q:Exit→Act→World→Prop} {v:Value}
theorem Xqq {t:TypeId} {m x:Operand} {ok:Bool} {mv kv:Value} (ho:o.op=.lookup t m x ok) (hm:a.eval m=mv) (hx:a.eval x=kv) (h:(Instr.lookup t mv kv ok).run P w=.ok v w'):(execOp a.eval o).run P w=.ok (.value v) w':=by
 unfold execOp
 simp only[ho,hm,hx,Sem.run_bind,Sem.run_pure,Result.andThen_ok,h]
theorem Xk7 {t:TypeId} {m x y:Operand} {mv kv yv:Value} (ho:o.op=.mapUpdate t m x y) (hm:a.eval m=mv) (hx:a.eval x=kv) (hy:a.eval y=yv) (h:(Instr.mapUpdate t mv kv yv).run P w=.ok () w'):(execOp a.eval o).run P w=.ok .skip w':=by
 unfold execOp
 simp only[ho,hm,hx,hy,Sem.run_bind,Sem.run_pure,Result.andThen_ok,h]
theorem Xgb (t:TypeId) (hgd:o.guard=none) (m x:Operand) (ho:o.op=.lookup t m x false) (h:∃mv kv v,a.eval m=mv∧a.eval x=kv∧(Instr.lookup t mv kv false).run P w=.ok v w∧wpList P ops Q rest (a.put o.dst v) w):wpList P ops Q (o::rest) a w:=by
 obtain⟨mv,kv,v,h1,h2,h3,h4⟩:=h
 exact Xaz hgd (Xqq ho h1 h2 h3) h4
theorem Xky (t:TypeId) (hgd:o.guard=none) (m x y:Operand) (ho:o.op=.mapUpdate t m x y) (h:∃mv kv yv w',a.eval m=mv∧a.eval x=kv∧a.eval y=yv∧(Instr.mapUpdate t mv kv yv).run P w=.ok () w'∧wpList P ops Q rest (a.put o.dst undef) w'):wpList P ops Q (o::rest) a w:=by
 obtain⟨mv,kv,yv,w',h1,h2,h3,h4,h5⟩:=h
 exact Xe8 hgd (Xk7 ho h1 h2 h3 h4) h5
end
def cnF (ids:List (List Nat)) (x:List Nat):Nat:=if x=zero32 then 1 else if x∈ids then 7 else 0
def Xzp (w:World) (b:Nat) (ids:List (List Nat)) (x:List Nat) (e:Ending) (w':World):Prop:=
 e=.returned (.int .i64 (cnF ids x:Nat))∧(cnF ids x=0→MId w' b (ids++[x]))∧Fr1 b w w'
theorem Fr1.grown {b:Nat} {w w':World} (h:w.grownBy w' (some b)):Fr1 b w w':=⟨h.os,h.tape,h.output,h.size,fun k hk hne=>h.block k hk (fun e=>hne (by cases e;rfl))⟩
set_option maxHeartbeats 1000000 in
theorem Xo7 (w:World) (b:Nat) (ids:List (List Nat)) (hm:MId w b ids) (hi:∀y∈ids,IdOk y) {x:List Nat} (hx:IdOk x):
    Calls Tryz.prog 102 #[.agg (idA x),.map (some b)] w (Xzp w b ids x):=by
 obtain⟨cs,hcs⟩:∃cs,cs=idA x:=⟨_,rfl⟩
 obtain⟨p,hp⟩:∃p,p=w.heap.size:=⟨_,rfl⟩
 have B0:Hid (Below w.heap.size w (w.alloc (.cells cs 26))):=Hd ((Below.refl _ _).alloc (Nat.le_refl _) _)
 have LDW:Hid (∀w',Below (w.alloc (.cells cs 26)).heap.size (w.alloc (.cells cs 26)) w'→(loadVar 26 ⟨w.heap.size,0,none⟩).run Tryz.prog w'=.ok (.agg cs) w'):=Hd (fun w' h=>by
  rw[hcs];exact Xjx _ w.heap.size 0 _ _ _ hx.len ((h.block w.heap.size (by simp)).trans (by rw[hcs];exact heap_alloc_last w _)) (Xgt x))
 have Z:=Hd (Xfs (w.alloc (.cells cs 26)) hx)
 have LK:Hid (∀w',Below (w.alloc (.cells cs 26)).heap.size (w.alloc (.cells cs 26)) w'→(Instr.lookup 148 (.map (some b)) (.agg cs) false).run Tryz.prog w'=.ok (.bool (decide (x∈ids))) w'):=Hd (fun w' h=>by
  rw[hcs];exact Xxb w' ((hm.below B0.out).below h) hi hx)
 have UP:Hid (∀w',Below (w.alloc (.cells cs 26)).heap.size (w.alloc (.cells cs 26)) w'→x∉ids→∃w'',(Instr.mapUpdate 148 (.map (some b)) (.agg cs) (.bool true)).run Tryz.prog w'=.ok () w''∧MId w'' b (ids++[x])∧w'.grownBy w'' (some b)):=Hd (fun w' h hn=>by
  rw[hcs];exact Xvt w' ((hm.below B0.out).below h) hi hx hn)
 have LD0:=LDW.out _ (Below.refl _ _)
 have HL0:=Hd LD0
 have CF:Hid (cnF ids x=if x=zero32 then 1 else if x∈ids then 7 else 0):=Hd rfl
 rw[←hcs] at Z⊢
 clear hcs hp hm hi hx LD0
 go_enter Tryz.func102,Tryz.ntmps102
 go_upto_region 1 with fail
 refine wp_region_list ?_
 simp only[]
 refine Xac 26 rfl _ rfl ⟨_,_,rfl,HL0.out,?_⟩
 go_wp2_with fail
 refine Z.out.mono ?_
 rintro e w1 ⟨rfl,hb1⟩
 have LD1:=Hd (LDW.out w1 hb1)
 have LK1:=Hd (LK.out w1 hb1)
 have UP1:=Hd (UP.out w1 hb1)
 have B1:=Hd (B0.out.trans (hb1.mono B0.out.size))
 clear hb1 Z LDW LK UP HL0
 by_cases hz:x=zero32
 ·have C1:Hid (cnF ids x=1):=Hd (by rw[CF.out,if_pos hz])
  rw[decide_eq_true hz]
  clear hz
  go_wp2_with fail
  go_ret
  exact⟨by rw[C1.out];rfl,(fun h=>by rw[C1.out] at h;cases h),Fr1.of_below B1.out⟩
 ·rw[decide_eq_false hz]
  by_cases hm:x∈ids
  ·have C1:Hid (cnF ids x=7):=Hd (by rw[CF.out,if_neg hz,if_pos hm])
   rw[decide_eq_true hm] at LK1
   clear hz hm
   go_wp2_with (first
    |((with_reducible refine Xac 26 rfl _ rfl ?_);refine⟨_,_,rfl,LD1.out,?_⟩)
    |((with_reducible refine Xgb 148 rfl _ _ rfl ?_);refine⟨_,_,_,rfl,rfl,LK1.out,?_⟩))
   go_ret
   exact⟨by rw[C1.out];rfl,(fun h=>by rw[C1.out] at h;cases h),Fr1.of_below B1.out⟩
  ·have C1:Hid (cnF ids x=0):=Hd (by rw[CF.out,if_neg hz,if_neg hm])
   obtain⟨w2,hu,hmid,hgr⟩:=UP1.out hm
   have HU:=Hd hu;have HM:=Hd hmid;have HG:=Hd hgr
   rw[decide_eq_false hm] at LK1
   clear hz hm hu hmid hgr UP1
   go_wp2_with (first
    |((with_reducible refine Xac 26 rfl _ rfl ?_);refine⟨_,_,rfl,LD1.out,?_⟩)
    |((with_reducible refine Xgb 148 rfl _ _ rfl ?_);refine⟨_,_,_,rfl,rfl,LK1.out,?_⟩)
    |((with_reducible refine Xky 148 rfl _ _ _ rfl ?_);refine⟨_,_,_,_,rfl,rfl,rfl,HU.out,?_⟩))
   go_ret
   exact⟨by rw[C1.out];rfl,(fun _=>HM.out),(Fr1.of_below B1.out).trans (Fr1.grown HG.out)⟩
end Go.Proofs.YtohmdledkhgdaaaGreatDoor
/- references.Check. -/
namespace Go.Proofs.YtohmdledkhgdaaaGreatDoor
open Go.RowKit
set_option linter.unusedVariables false
set_option maxRecDepth 100000
def zF (x:List Nat):Nat:=if x=zero32 then 1 else 0
theorem Xmo (l:List (List Nat)):Xer l=Xcc zF l:=rfl
theorem Xm8 {L:List (List Nat)} {j:Nat} (h:j<L.length):Xcz zF 7 (L.take j) (L.drop j)=if cnF (L.take j) L[j]≠0 then cnF (L.take j) L[j] else Xcz zF 7 (L.take (j+1)) (L.drop (j+1)):=by
 rw[Xhs zF 7 L j h]
 unfold cnF zF
 by_cases h1:L[j]=zero32
 ·simp[h1]
 ·by_cases h2:L[j]∈L.take j<;>simp[h1,h2]
set_option maxHeartbeats 2000000 in
theorem Xll (w:World) (v:Value) (ids:List (List Nat)) (hr:IRow w v ids) (hl:ids.length≤1000000) (hi:∀y∈ids,IdOk y):
    Calls Tryz.prog 60 #[v] w fun e w'=>e=.returned (.int .i64 (Xer ids:Nat))∧Below w.heap.size w w':=by
 rw[Xmo]
 obtain⟨n,hn⟩:∃n,n=ids.length:=⟨_,rfl⟩
 obtain⟨a,cap,rfl,hcap,hcells⟩:=hr
 rw[←hn] at hcap hl⊢
 have HN:=Hd hn
 have HC:=Hd hcells;have HI:=Hd hi
 by_cases h20:20<n
 ·have F:Hid (Xcc zF ids=9):=Hd (by unfold Xcc;rw[if_pos (by rw[←hn];exact h20)])
  clear hcells hn hi
  go_enter Tryz.func60,Tryz.ntmps60
  go_wp2_with fail
  go_ret
  exact⟨by rw[F.out];rfl,Below.refl _ _⟩
 ·have F:Hid (Xcc zF ids=Xcz zF 7 (ids.take 0) (ids.drop 0)):=Hd (by unfold Xcc;rw[if_neg (by rw[←hn];exact h20)];rfl)
  have hmm:=@run_makeMap Tryz.prog
  clear hcells hn hi
  go_enter Tryz.func60,Tryz.ntmps60
  go_wp2_with fail
  clear hmm
  go_loopg [5,6,13] n (fun k s5 s6 i wr=>∃j:Nat,j≤n∧k=n-j∧i=.int .i64 (j:Int)∧Hid (Xcc zF ids=Xcz zF 7 (ids.take j) (ids.drop j))∧Hid (MId wr w.heap.size (ids.take j))∧Hid (Below w.heap.size w wr))
  case atStart=>exact⟨0,by omega,rfl,rfl,F,Hd (by simpa using MId.made w),Hd ((Below.refl _ _).alloc (Nat.le_refl _) _)⟩
  case round=>
   obtain⟨j,hj,rfl,rfl,ha,hm,hb⟩:=hrel
   by_cases h:j<n
   ·have hjl:j<ids.length:=by rw[←HN.out];exact h
    obtain⟨b,off,rfl,hbl,hcl⟩:=HC.out (by intro e;rw[e] at hjl;simp at hjl)
    obtain⟨x,hx⟩:∃x,x=ids[j]:=⟨_,rfl⟩
    have hxo:IdOk x:=by rw[hx];exact HI.out _ (List.getElem_mem hjl)
    have LD:Hid ((loadVar 26 ⟨b,off+j*32,none⟩).run Tryz.prog wr=.ok (.agg (idA x)) wr):=Hd
     (Xai wr b (off+j*32) 26 (idA x) _ Tryz.underlying26 rfl (by rw[Xag,hxo.len];exact Xbf) (fun k u hu=>by
      rw[hb.out.cell (p:=⟨b,off+j*32+k,none⟩) hbl];exact hcl j hjl k u (by rw[←hx];exact hu)))
    have ST:=Hd (Xm8 (L:=ids) hjl)
    rw[←hx] at ST
    have TS:Hid (ids.take (j+1)=ids.take j++[x]):=Hd (by rw[List.take_succ_eq_append_getElem hjl,←hx])
    have hs32:(idA x).size=32:=by rw[Xag,hxo.len]
    have STR:Hid (∀zz:Array Value,zz.size=32→(storeVar 26 ⟨wr.heap.size,0,none⟩ (.agg (idA x))).run Tryz.prog (wr.alloc (.cells zz 26))=.ok () (wr.alloc (.cells (idA x) 26))):=Hd (fun zz hz=>run_storeVar_new wr 26 zz (idA x) (by rw[hs32];exact Xbf) (by rw[hz,hs32]) (Xed _))
    have LD2:Hid ((loadVar 26 ⟨wr.heap.size,0,none⟩).run Tryz.prog (wr.alloc (.cells (idA x) 26))=.ok (.agg (idA x)) (wr.alloc (.cells (idA x) 26))):=Hd (Xjx _ wr.heap.size 0 _ _ _ hxo.len (heap_alloc_last wr _) (Xgt x))
    have BA:Hid (Below wr.heap.size wr (wr.alloc (.cells (idA x) 26))):=Hd ((Below.refl _ _).alloc (Nat.le_refl _) _)
    have CN:=Hd (Xo7 (wr.alloc (.cells (idA x) 26)) w.heap.size (ids.take j) (hm.out.below BA.out) (fun y hy=>HI.out y (List.mem_of_mem_take hy)) hxo)
    have B1:Hid (Below w.heap.size w (wr.alloc (.cells (idA x) 26))):=Hd (hb.out.trans (BA.out.mono hb.out.size))
    obtain⟨cs,hcs⟩:∃cs,cs=idA x:=⟨_,rfl⟩
    rw[←hcs] at LD STR LD2 CN B1
    obtain⟨m,hmm⟩:∃m,m=cnF (ids.take j) x:=⟨_,rfl⟩
    unfold Xzp at CN
    rw[←hmm] at CN ST
    clear hx hcl hcs hs32 hxo BA hm hmm
    go_upto_region 7 with(first
     |((with_reducible refine Xac 26 rfl _ rfl ?_);refine⟨_,_,rfl,LD.out,?_⟩)
     |((with_reducible refine Xab 26 rfl _ _ rfl ?_);refine⟨_,_,_,rfl,rfl,STR.out _ rfl,?_⟩))
    refine wp_region_list ?_
    simp only[]
    refine Xac 26 rfl _ rfl ⟨_,_,rfl,LD2.out,?_⟩
    go_wp2_with fail
    refine CN.out.mono ?_
    rintro e w1 ⟨rfl,h1,f1⟩
    have BB:Hid (Below w.heap.size w w1):=Hd (B1.out.trans (f1.below B1.out.size (Nat.le_refl _)))
    by_cases m0:m=0
    ·have q0:((m:Int) !=0)=false:=Xat (by omega)
     have MN:Hid (MId w1 w.heap.size (ids.take (j+1))):=Hd (by rw[TS.out];exact h1 m0)
     have ST2:Hid (Xcc zF ids=Xcz zF 7 (ids.take (j+1)) (ids.drop (j+1))):=Hd (by rw[ha.out,ST.out,if_neg (by omega)])
     clear m0 h1 f1 CN
     go_wp2_with fail
     go_roundg (n-(j+1))
     case measure=>omega
     case rel=>exact⟨j+1,by omega,rfl,by go_num,ST2,MN,BB⟩
    ·have q0:((m:Int) !=0)=true:=Xam (by omega)
     have ST2:Hid (Xcc zF ids=m):=Hd (by rw[ha.out,ST.out,if_pos m0])
     clear m0 h1 f1 CN
     go_wp2_with fail
     go_ret
     exact⟨by rw[ST2.out];rfl,BB.out⟩
   ·obtain rfl:j=n:=by omega
    have ST2:Hid (Xcc zF ids=0):=Hd (by rw[ha.out,List.drop_of_length_le (by rw[HN.out];exact Nat.le_refl _)];rfl)
    go_wp2_with fail
    go_ret
    exact⟨by rw[ST2.out];rfl,hb.out⟩
end Go.Proofs.YtohmdledkhgdaaaGreatDoor
