/- What the walks read of the program's variables. -/
import Derived.Test.YtohmdledkhgdaaaGreatDoorPa02
import Derived.Lib.LaidTab
import Derived.Lib.ItoaNum
import Derived.Deep.MidRow
import Derived.Maps.OwnOps
import Derived.Maps.OwnSet
import Derived.Laws.BitsLemmas
namespace Go.Proofs.YtohmdledkhgdaaaGreatDoor
open Go.RowKit
set_option linter.unusedVariables false
set_option maxRecDepth 100000
structure Env (w:World):Prop where
 tab:Tab w
 pow : Lib.TabIs Tryz.prog w "internal/strconv.uint64pow10" .u64 Lib.pow10Tab
 mx:∃m,w.cell? ⟨2,0,none⟩=some (.int .i64 m)
 sha:∀i,i<64→w.cell? ⟨1,i,none⟩=some (.int .u32 ((shK.getD i 0:Nat):Int))
 fw:∀i,i<11→w.cell? ⟨0,i,none⟩=some (.string (Xaq (fWords.getD i [])))
 size:9≤w.heap.size
theorem Xpr {w w':World} {n:String} {g:Nat} {k:IntKind} {zs:List Int} {B:Nat} (h:Lib.TabIs Tryz.prog w n k zs) (hg:Tryz.prog.globalNamed n=some g) (hb:Below B w w') (hB:g<B):Lib.TabIs Tryz.prog w' n k zs:=by
 unfold Lib.TabIs World.var? at h⊢
 rw[hg] at h⊢
 simp only[Option.bind_some] at h⊢
 rw[hb.block g hB]
 exact h
theorem Env.below {B:Nat} {w w':World} (h:Env w) (hb:Below B w w') (hB:9≤B):Env w':=
 ⟨h.tab.below hb (Nat.lt_of_lt_of_le (by decide) hB),Xpr h.pow (g:=4) (by kernel_rfl) hb (Nat.lt_of_lt_of_le (by decide) hB),(by
  obtain⟨m,hm⟩:=h.mx
  exact⟨m,(hb.cell (p:=⟨2,0,none⟩) (Nat.lt_of_lt_of_le (by show(_:Nat)<9;decide) hB)).trans hm⟩),
  fun i hi=>(hb.cell (p:=⟨1,i,none⟩) (Nat.lt_of_lt_of_le (show(1:Nat)<9 by decide) hB)).trans (h.sha i hi),
  fun i hi=>(hb.cell (p:=⟨0,i,none⟩) (Nat.lt_of_lt_of_le (show(0:Nat)<9 by decide) hB)).trans (h.fw i hi),Nat.le_trans h.size hb.size⟩
theorem Env.on {w w':World} (h:Env w) (hb:Below w.heap.size w w'):Env w':=h.below hb h.size
set_option maxHeartbeats 400000 in
theorem Ykk (w0 w:World) (B fr tt bits count g:Nat) (f:Nat→Nat) (xs:List Nat) (h:RG B fr tt 234 bits count xs w) (hb:Below B w0 w) (hp:Xte w0 B 234 (2^tt) f)
    (hfr:fr≤8) (htt:1≤tt) (htt8:tt≤8) (hc:count<tt) (hbits:bits<2^count) (hg:g<2^fr) (hn:xs.length≤900000):
    Calls Tryz.prog 239 #[.int .i64 g,.pointer (some ⟨B+5,0,none⟩),.pointer (some ⟨B+2,0,none⟩),.pointer (some ⟨B+6,0,none⟩),.pointer (some ⟨B+3,0,none⟩),.pointer (some ⟨B+4,0,none⟩)] w fun e w'=>
     e=.returned (.tuple #[])∧Below B w0 w'∧KM w w'∧∃b c ys,Xb4 f tt 16 (bits*2^fr+g) (count+fr) xs=(b,c,ys)∧RG B fr tt 234 b c ys w':=by
 have c5:=cell_of_one h.bBits
 have c2:=cell_of_one h.bFrom
 have c6:=cell_of_one h.bCount
 have f5:=free_of_one h.bBits
 have f6:=free_of_one h.bCount
 have hp1:2^count≤2^8:=Nat.pow_le_pow_right (by omega) (by omega)
 have hp2:2^fr≤2^8:=Nat.pow_le_pow_right (by omega) (by omega)
 have bd0:=Xix hbits hg
 have b1:bits<256:=by omega
 have b2:g<256:=by omega
 obtain⟨x,hx⟩:∃x,x=bits*2^fr+g:=⟨_,rfl⟩
 obtain⟨y,hy⟩:∃y,y=count+fr:=⟨_,rfl⟩
 have hy16:y<16:=by omega
 have ey:(count:Int)+(fr:Int)=(y:Int):=by omega
 have e0:Go.bits .or .i64 (wrap64 ((bits:Int)*2^fr)) (g:Int)=(x:Int):=by rw[hx];exact Xsh bits fr g b1 hfr hg
 have r0:RG B fr tt 234 x y xs (((w.setCell ⟨B+5,0,none⟩ (.int .i64 (x:Int))).setCell ⟨B+6,0,none⟩ (.int .i64 (y:Int))).drew):=((h.setBits _).setCount _).drew
 have q0:Below B w0 (((w.setCell ⟨B+5,0,none⟩ (.int .i64 (x:Int))).setCell ⟨B+6,0,none⟩ (.int .i64 (y:Int))).drew):=((hb.setCell (by simp) _).setCell (by simp) _).drew
 have bd:x<2^y:=by rw[hx,hy];exact bd0
 rw[←hx,←hy]
 have k0:KM w (((w.setCell ⟨B+5,0,none⟩ (.int .i64 (x:Int))).setCell ⟨B+6,0,none⟩ (.int .i64 (y:Int))).drew):=((KM.setCell h.bBits 0 _).trans (KM.setCell (h.setBits x).bCount 0 _)).drew
 have K0:=Hd k0
 clear k0
 have HP:=Hd hp;have R0:=Hd r0;have Q0:=Hd q0;have BD:=Hd bd
 clear hp h hb hp1 hp2 r0 q0 bd hbits hg hx hy bd0
 go_enter Tryz.func239,Tryz.ntmps239
 go_wp2_with fail
 go_region
 all_goals go_wp2_with fail
 go_loopg [] 16 (fun k wr=>∃b c ys,RG B fr tt 234 b c ys wr∧Below B w0 wr∧KM w wr∧b<2^c∧c≤k∧c<16∧ys.length+c≤900000+16∧Xb4 f tt k b c ys=Xb4 f tt 16 x y xs)
 case atStart=>exact⟨x,y,xs,R0.out,Q0.out,K0.out,BD.out,by omega,hy16,by omega,rfl⟩
 case round=>
  obtain⟨b,c,ys,hr,hq,hkm,hbc,hck,hc16,hlen,hdr⟩:=hrel
  obtain⟨v,hv,hown⟩:=hr.txt
  have k5:=cell_of_one hr.bBits
  have k3:=cell_of_one hr.bTo
  have k6:=cell_of_one hr.bCount
  have k4:=cell_of_one hr.bPass
  have l5:=free_of_one hr.bBits
  have l6:=free_of_one hr.bCount
  clear e0 c5 c2 c6 f5 f6
  have HKM:=Hd hkm
  clear hkm
  by_cases hlt:c<tt
  ·have HR:=Hd hr;have HQ:=Hd hq;have HD:=Hd hdr
   clear hr hq hdr hv hown hbc
   go_wp2_with fail
   go_end0
   refine⟨rfl,HQ.out,HKM.out,b,c,ys,?_,HR.out⟩
   rw[←HD.out]
   cases gk<;>simp[Xb4,hlt]
  ·obtain⟨d,hd⟩:∃d,d=c-tt:=⟨_,rfl⟩
   obtain⟨q,hq'⟩:∃q,q=b/2^d:=⟨_,rfl⟩
   have ed:(c:Int)-(tt:Int)=(d:Int):=by omega
   have eq:(b:Int)/2^d=(q:Int):=by rw[hq'];push_cast;rfl
   have hd16:d<16:=by omega
   obtain⟨r,hr'⟩:∃r,r=b%2^d:=⟨_,rfl⟩
   have hb16:b<65536:=Nat.lt_of_lt_of_le hbc (Nat.pow_le_pow_right (n:=2) (by omega) (show c≤16 by omega))
   have em:Go.bits .and .i64 (b:Int) (wrap64 (wrap64 (2^d)-1))=(r:Int):=by rw[hr'];exact Xph b d hb16 (by omega)
   have EM:=Hd em;have W:=Hd hr'
   clear em hr'
   have hqlt:q<2^tt:=by rw[hq'];apply Nat.div_lt_of_lt_mul;rw[←Nat.pow_add];have:d+tt=c:=by omega
                        rw[this];exact hbc
   have r1:=hr.setCount d
   have q1:Below B w0 (wr.setCell ⟨B+6,0,none⟩ (.int .i64 (d:Int))):=hq.setCell (by simp) _
   have hylen:ys.length≤1000000:=by omega
   have o1:=(ownsRow_setCell_other (a:=⟨B+6,0,none⟩) hown (Xd6 (b:=B+6) (t:=3) hown hr.bCount (by decide)) (.int .i64 (d:Int))).drew
   have P1:=Hd (HP.out (wr.setCell ⟨B+6,0,none⟩ (.int .i64 (d:Int))).drew v ys q q1.drew ((Below.heap_setCell _ _ _ _ (by simp)).trans hv) o1 hylen hqlt)
   have O1:=Hd o1
   have K1:=Hd (KM.setCell hr.bCount 0 (.int .i64 (d:Int)))
   have V1:Hid ((wr.setCell ⟨B+6,0,none⟩ (.int .i64 (d:Int))).drew.heap[B+1]?=some (.cells #[v] 62 (0,0))):=(Below.heap_setCell _ _ _ _ (by simp)).trans hv
   have R1:=Hd r1;have HD:=Hd hdr;have Q1:=Hd q1;have X:=Hd hq';have Y:=Hd hd;have Z:=Hd hbc
   clear hr hq hdr hv hown hbc r1 q1 hq' hd hqlt o1
   go_wp2_with fail
   go_region_held3 (fun w'=>w'.cell? ⟨B+4,0,none⟩=some (.func (.func 234) #[] #[.pointer (some ⟨B+1,0,none⟩)])∧w'.cell? ⟨B+5,0,none⟩=some (.int .i64 (b:Int))∧w'.cell? ⟨B+6,0,none⟩=some (.int .i64 (d:Int)))
    (first|exact⟨cell_of_one R1.out.drew.bPass,cell_of_one R1.out.drew.bBits,cell_of_one R1.out.drew.bCount⟩|exact⟨cell_of_one HR3.out.bPass,cell_of_one HR3.out.bBits,cell_of_one HR3.out.bCount⟩)
    (first|(go_at_call 234;refine(P1.out).mono ?_;rintro e w2 ⟨rfl,hn,hf⟩;have HR3:=Hd (RG.passed R1.out.drew O1.out hn hf);clear hn))
   all_goals (have k5:=cell_of_one HR3.out.bBits;have k6:=cell_of_one HR3.out.bCount;have l5:=free_of_one HR3.out.bBits;have em:=EM.out)
   all_goals go_wp2_with fail
   all_goals go_region
   all_goals go_wp2_with fail
   all_goals clear em
   all_goals go_roundg (gk-1)
   case measure=>omega
   case rel=>
    refine⟨r,d,ys++[f q],(HR3.out.setBits r).drew,(((Q1.out.drew.trans hf.below).setCell (by simp) _).drew),?_,?_,by omega,hd16,by simp;omega,?_⟩
    ·exact(((HKM.out.trans K1.out).drew.trans (hf.km V1.out O1.out)).trans (KM.setCell HR3.out.bBits 0 _)).drew
    ·rw[W.out];exact Nat.mod_lt _ (Nat.pow_pos (by omega))
    ·rw[←HD.out]
     obtain⟨k',rfl⟩:∃k',gk=k'+1:=⟨gk-1,by omega⟩
     rw[Xen _ _ _ _ _ _ hlt,←Y.out,←W.out,←X.out]
     rfl
theorem Ykh (w:World) (Bt g base:Nat) (v:Value) (xs:List Nat)
    (hT:w.heap[Bt]?=some (.cells #[v] 62 (0,0))) (hown:w.ownsRow base 5 1 v xs.length (xs.map U)) (hbase:base≤w.heap.size) (hBt:base≤Bt)
    (hn:xs.length≤1000000) (hg:g<256):
    Calls Tryz.prog 234 #[.int .i64 g,.pointer (some ⟨Bt,0,none⟩)] w fun e w'=>e=.returned (.tuple #[])∧
     (∃v',w'.heap[Bt]?=some (.cells #[v'] 62 (0,0))∧w'.ownsRow base 5 1 v' (xs.length+1) ((xs++[g]).map U))∧Frame1 base Bt v w w':=by
 obtain⟨i0,hi0,hz0,hz1,hz2⟩:=info_parts Xio
 have hc:=cell_of_one hT
 have hf:=free_of_one hT
 have lt:=lt_of_block hT
 have g0:(0:Int)≤(g:Int):=Int.natCast_nonneg _
 have g1:(g:Int)<256:=by omega
 have hne:v.ownBlock≠some Bt:=Xd6 hown hT (by decide)
 have hTA:(w.alloc (.cells #[.int .u8 g] 5)).heap[Bt]?=some (.cells #[v] 62 (0,0)):=Xaf hT
 have HT:=Hd hT
 have HTA:=Hd hTA
 have HNE:=Hd hne
 clear hT hTA hne
 go_enter Tryz.func234,Tryz.ntmps234
 go_wp2_with ((at_builtin;refine wpList_append_lies _ rfl _ _ _ rfl base 5 i0 _ 1 1 Tryz.underlying62 hi0 hz0 hz1 hz2 rfl (by omega) v xs.length (xs.map U) rfl (hown.alloc _) ⟨w.heap.size,0,none⟩ 1 1 [.int .u8 g] rfl rfl (World.news_of_block (cs:=#[.int .u8 g]) (t:=5) (fr:=(0,0)) (heap_alloc_new w _)) (by simp[Value.oneCell']) (by omega) (by unfold maxLen;omega) (by omega) (by simp;omega) (w.heap.size+1) (by simp) ?_;intro gg cap w1 hown1 hgrow hat hlt;have hc1:=Xda hgrow HTA.out HNE.out;have hc2:=cell_of_one hc1;have hc3:=free_of_one hc1;have HC1:=Hd hc1;clear hc1))
 all_goals go_end0
 all_goals (refine⟨rfl,?_⟩;rw[List.map_append];exact Xkt hown1 hgrow (((Below.refl _ _).alloc (Nat.le_refl _) _)) HC1.out (by decide) hBt hbase hown)
end Go.Proofs.YtohmdledkhgdaaaGreatDoor
/- Walk of base64.values: the map from letters to their values. -/
namespace Go.Proofs.YtohmdledkhgdaaaGreatDoor
open Go.RowKit Go.Maps
set_option linter.unusedVariables false
set_option maxRecDepth 100000
def alphCells:List Value:=alph.map U
theorem Xih (k:Nat) (h:k<64):alphCells[k]?=some (U (al k)):=by
 have hl:k<alph.length:=by simp[alph];omega
 simp[alphCells,al,List.getD,List.getElem?_eq_getElem hl]
theorem Xns {w:World} (h:Tab w):w.rangeAt 3 0 alphCells:=by
 intro j v hv
 have hj:j<64:=by
  have:=(List.getElem?_eq_some_iff.1 hv).1
  simpa [alphCells,alph] using this
 rw[Xih j hj] at hv
 cases hv
 rw[Nat.zero_add]
 exact h.cell j hj
theorem Ybs (k:Nat) (h:k<64) (w:World):(Instr.index 177 (.agg alphCells.toArray) (.int .i64 k)).run Tryz.prog w=.ok (.int .u8 (al k)) w:=by
 have hi:(0:Int)≤(k:Int)∧(k:Int)<64:=by omega
 simp[Instr.index,run_underlying Tryz.underlying177,asIntOf,hi,go_sem]
 rw[if_pos h,Xih k h]
 rfl
theorem Yje:Keyed Tryz.prog 5:=int_keyed Tryz.underlying5
theorem Ygs (w:World):(zeroValue 3).run Tryz.prog w=.ok (.int .i64 0) w:=by kernel_rfl
theorem Yjc (w:World):(Instr.makeMap 271 (some (.int .i64 64))).run Tryz.prog w=.ok (.map (some w.heap.size)) (w.alloc (.map #[] 0)):=by
 kernel_rfl
def Xzr (k:Nat):DataW Unit:=(List.range k).foldl (fun D i=>D.put (.int .u8 (al i)) (.lit (.int .i64 i))) (.map [])
theorem Xvp (k:Nat):Xzr (k+1)=(Xzr k).put (.int .u8 (al k)) (.lit (.int .i64 k)):=by simp[Xzr,List.range_succ]
theorem Xz5:∀c:Nat,c<256→Maps.has (Xzr 64) (.int .u8 c)=(vOf c).isSome:=by decide+kernel
theorem Xz6:∀c:Nat,c<256→(match (Xzr 64).atKey (.int .u8 c) (.lit (.int .i64 0)) with|.lit (.int .i64 x)=>decide (x=((vOf c).getD 0:Nat))|_=>false)=true:=by decide+kernel
theorem Yd6 (c:Nat) (h:c<256) (x:Int) (hx:(Xzr 64).atKey (.int .u8 c) (.lit (.int .i64 0))=.lit (.int .i64 x)):x=((vOf c).getD 0:Nat):=by
 have:=Xz6 c h
 rw[hx] at this
 simpa using this
set_option maxHeartbeats 400000 in
theorem Xtj (w:World) (ht:Tab w):
    Calls Tryz.prog 235 #[] w fun e w'=>e=.returned (.map (some w.heap.size))∧w'.ownsMap Tryz.prog 5 (plainElem (H:=Unit) Tryz.prog 3) w.heap.size 64 (Xzr 64)∧Below w.heap.size w w':=by
 have hmm:=Yjc
 have hr:=Xns ht
 have RA:Hid ((w.alloc (.map #[] 0)).rangeAt 3 0 alphCells):=Xns (ht.below ((Below.refl _ _).alloc (Nat.le_refl _) _) ht.size)
 have hi:(Tryz.prog.info? 177).map (·.size)=some alphCells.length:=by kernel_rfl
 obtain⟨cs,hcs⟩:∃cs,cs=alphCells:=⟨_,rfl⟩
 rw[←hcs] at RA hi
 have HCS:=Hd hcs;have HI:=Hd hi
 clear hr ht hcs hi
 go_enter Tryz.func235,Tryz.ntmps235
 go_wp2_with (with_reducible refine wpList_load_mid rfl 177 _ rfl 3 0 rfl cs _ RA.out Tryz.underlying177 rfl HI.out ?_)
 go_loopg [6] 64 (fun k i wr=>∃j,j≤64∧k=64-j∧i=.int .i64 (j:Int)∧wr.ownsMap Tryz.prog 5 (plainElem (H:=Unit) Tryz.prog 3) w.heap.size j (Xzr j)∧Below w.heap.size w wr)
 case atStart=>exact⟨0,by omega,by omega,rfl,World.ownsMap_made _ _ _ _,(Below.refl _ _).alloc (Nat.le_refl _) _⟩
 case round=>
  obtain⟨j,hj,rfl,rfl,hown,hb⟩:=hrel
  by_cases hlt:j<64
  ·have hx:∀w,(Instr.index 177 (.agg cs.toArray) (.int .i64 (j:Int))).run Tryz.prog w=.ok (.int .u8 (al j)) w:=fun w=>by rw[HCS.out];exact Ybs j hlt w
   have hal:=Ycx j
   have hkey:keyOf Tryz.prog 5 (.int .u8 (al j))=some (.int .u8 (al j)):=keyOf_int_mk Tryz.underlying5 (WalkArith.wf_u8 (by omega))
   go_wp2_with (at_mapUpdate;refine wpList_mapUpdate_own _ rfl _ _ _ 271 rfl 5 3 Yje Tryz.underlying271 _ w.heap.size j _ rfl hown (by unfold maxLen;omega) _ _ _ rfl rfl hkey _ [] (plainElem_int Tryz.underlying3 (WalkArith.wf_i64 (by omega))) ?_;intro w1 hown1 hgrow1)
   go_roundg (64-(j+1))
   case measure=>omega
   case rel=>exact⟨j+1,by omega,rfl,by go_num,by rw[Xvp];exact hown1,hb.grown hgrow1 hb.size (fun j hj=>by cases hj;exact Nat.le_refl _)⟩
  ·obtain rfl:j=64:=by omega
   go_wp2_with fail
   go_ret
   exact⟨rfl,hown,hb⟩
theorem Xa7 {P:Program} (t:TypeId) (ht:P.underlying t=some .string) (s:ByteArray) (k:IntKind) (i:Int) (j:Nat) (hi:i=j) (hj:j<s.size) (w:World):
    (Instr.index t (.string s) (.int k i)).run P w=.ok (.int .u8 (((bs s).getD j 0:Nat):Int)) w:=by
 subst hi
 rw[run_index_string w t s _ _ ht,dif_pos ⟨by omega,by omega⟩,Yf5 s j hj]
 rfl
theorem Xa6 {a b:Int} (h:a=b):(a==b)=true:=by rw[h];exact beq_self_eq_true b
theorem Xak {a b:Int} (h:¬a=b):(a==b)=false:=beq_eq_false_iff_ne.2 h
theorem Xam {a b:Int} (h:¬a=b):(a !=b)=true:=bne_iff_ne.2 h
theorem Xat {a b:Int} (h:a=b):(a !=b)=false:=by rw[h];simp
theorem Ycb (s:ByteArray) (w:World) (hs:s.size≤maxLen):
    Calls Tryz.prog 233 #[.string s] w fun e w'=>e=.returned (.int .i64 (Xbi (bs s):Nat))∧w=w':=by
 unfold maxLen at hs
 by_cases h0:s.size=0
 ·have hf:Xbi (bs s)=0:=by unfold Xbi;rw[if_pos (by rw[Xaa];exact .inl h0),Xaa,h0]
  rw[hf]
  have h0':((s.size:Int)==0)=true:=Xa6 (by omega)
  clear hf
  go_enter Tryz.func233,Tryz.ntmps233
  go_wp2_with fail
  go_ret
  exact⟨rfl,rfl⟩
 ·have h0':((s.size:Int)==0)=false:=Xak (by omega)
  by_cases h4:s.size%4=0
  ·have h4':((s.size:Int)%4 !=0)=false:=Xat (by omega)
   obtain⟨c1,hc1⟩:∃c1,c1=(bs s).getD (s.size-1) 0:=⟨_,rfl⟩
   obtain⟨c2,hc2⟩:∃c2,c2=(bs s).getD (s.size-2) 0:=⟨_,rfl⟩
   have hx:∀w,(Instr.index 9 (.string s) (.int .i64 ((s.size:Int)-1))).run Tryz.prog w=.ok (.int .u8 (c1:Int)) w:=fun w=>by
    rw[Xa7 9 Tryz.underlying9 s .i64 ((s.size:Int)-1) (s.size-1) (by omega) (by omega),hc1]
   have hx2:∀w,(Instr.index 9 (.string s) (.int .i64 ((s.size:Int)-2))).run Tryz.prog w=.ok (.int .u8 (c2:Int)) w:=fun w=>by
    rw[Xa7 9 Tryz.underlying9 s .i64 ((s.size:Int)-2) (s.size-2) (by omega) (by omega),hc2]
   by_cases hl:c1=61
   ·have hl':((c1:Int) !=61)=false:=Xat (by omega)
    by_cases hm:c2=61
    ·have hf:Xbi (bs s)=s.size-2:=by unfold Xbi;rw[if_neg (by rw[Xaa,←hc1];omega),if_pos (by rw[Xaa,←hc2];exact hm),Xaa]
     rw[hf]
     have hm':((c2:Int)==61)=true:=Xa6 (by omega)
     clear hf hc1 hc2 hl hm
     go_enter Tryz.func233,Tryz.ntmps233
     go_wp2_with fail
     go_ret
     refine⟨?_,rfl⟩
     simp;omega
    ·have hf:Xbi (bs s)=s.size-1:=by unfold Xbi;rw[if_neg (by rw[Xaa,←hc1];omega),if_neg (by rw[Xaa,←hc2];exact hm),Xaa]
     rw[hf]
     have hm':((c2:Int)==61)=false:=Xak (by omega)
     clear hf hc1 hc2 hl hm
     go_enter Tryz.func233,Tryz.ntmps233
     go_wp2_with fail
     go_ret
     refine⟨?_,rfl⟩
     simp;omega
   ·have hf:Xbi (bs s)=s.size:=by unfold Xbi;rw[if_pos (by rw[Xaa,←hc1];exact .inr (.inr hl)),Xaa]
    rw[hf]
    have hl':((c1:Int) !=61)=true:=Xam (by omega)
    clear hf hc1 hc2 hl
    go_enter Tryz.func233,Tryz.ntmps233
    go_wp2_with fail
    go_ret
    exact⟨rfl,rfl⟩
  ·have h4':((s.size:Int)%4 !=0)=true:=Xam (by omega)
   have hf:Xbi (bs s)=s.size:=by unfold Xbi;rw[if_pos (by rw[Xaa];exact .inr (.inl h4)),Xaa]
   rw[hf]
   clear hf
   go_enter Tryz.func233,Tryz.ntmps233
   go_wp2_with fail
   go_ret
   exact⟨rfl,rfl⟩
end Go.Proofs.YtohmdledkhgdaaaGreatDoor
/- The package utf8: how long a character is, and valid texts. -/
namespace Go.Proofs.YtohmdledkhgdaaaGreatDoor
open Go.RowKit
set_option linter.unusedVariables false
set_option maxRecDepth 100000
def Dr (w w':World):Prop:=∃q,w'=w.drewN q
theorem Dr.refl (w:World):Dr w w:=⟨0,rfl⟩
theorem Xdx (w:World) (a b:Nat):(w.drewN a).drewN b=w.drewN (a+b):=by simp[World.drewN,Nat.add_assoc]
theorem Dr.drewN {w w':World} (h:Dr w w') (q:Nat):Dr w (w'.drewN q):=by
 obtain⟨p,rfl⟩:=h;exact⟨p+q,Xdx _ _ _⟩
theorem Dr.trans {a b c:World} (h:Dr a b) (h':Dr b c):Dr a c:=by obtain⟨q,rfl⟩:=h';exact h.drewN q
theorem Xz7 (w:World) (c:Nat) (hc:c<256):Calls Tryz.prog 246 #[.int .u8 (c:Int)] w fun e w'=>e=.returned (.int .i64 (Xf2 c:Int))∧w=w':=by
 have hk:c≤127∨(127<c∧c<194)∨(194≤c∧c≤223)∨(224≤c∧c≤239)∨(240≤c∧c≤244)∨244<c:=by omega
 have e0:Xf2 c=if c≤127 then 1 else if c<194 then 0 else if c≤223 then 2 else if c≤239 then 3 else if c≤244 then 4 else 0:=rfl
 have E0:=Hd e0
 clear e0
 rcases hk with h|⟨h,h2⟩|⟨h,h2⟩|⟨h,h2⟩|⟨h,h2⟩|h
 all_goals
  go_enter Tryz.func246,Tryz.ntmps246
  go_wp2_with fail
  go_ret
  refine⟨?_,rfl⟩
  rw[E0.out]
  first
   |rw[if_pos (by omega)];rfl
   |rw[if_neg (by omega),if_pos (by omega)];rfl
   |rw[if_neg (by omega),if_neg (by omega),if_pos (by omega)];rfl
   |rw[if_neg (by omega),if_neg (by omega),if_neg (by omega),if_pos (by omega)];rfl
   |rw[if_neg (by omega),if_neg (by omega),if_neg (by omega),if_neg (by omega),if_pos (by omega)];rfl
   |rw[if_neg (by omega),if_neg (by omega),if_neg (by omega),if_neg (by omega),if_neg (by omega)];rfl
theorem Xel {f i c lo hi:Nat} (h1:(if i=1∧f=224 then 160 else if i=1∧f=240 then 144 else 128)=lo) (h2:(if i=1∧f=237 then 159 else if i=1∧f=244 then 143 else 191)=hi) {b:Bool} (hb:b=(decide (lo≤c)&&decide (c≤hi))):Xgl f i c=b:=by
 unfold Xgl;rw[h1,h2,hb]
theorem Xa3 {a b:Bool} (h:a=b):Ending.returned (.bool a)=.returned (.bool b):=by rw[h]
set_option maxHeartbeats 1000000 in
theorem Xnr (w:World) (f i c:Nat) (hf:f<256) (hi:i<5) (hc:c<256):Calls Tryz.prog 247 #[.int .u8 (f:Int),.int .i64 (i:Int),.int .u8 (c:Int)] w fun e w'=>e=.returned (.bool (Xgl f i c))∧w=w':=by
 obtain⟨b,hb⟩:∃b,b=Xgl f i c:=⟨_,rfl⟩
 rw[←hb]
 have HB:=Hd hb
 clear hb
 by_cases h1:i=1
 ·subst h1
  have hk:(f≠224∧f≠237∧f≠240∧f≠244)∨f=224∨f=237∨f=240∨f=244:=by omega
  rcases hk with⟨h,h2,h3,h4⟩|rfl|rfl|rfl|rfl
  ·rcases(by omega:c<128∨(128≤c∧c≤191)∨191<c) with a|⟨a,a'⟩|a
   all_goals
    have q0:((f:Int)==224)=false:=Xak (by omega)
    have q1:((f:Int)==237)=false:=Xak (by omega)
    have q2:((f:Int)==240)=false:=Xak (by omega)
    have q3:((f:Int)==244)=false:=Xak (by omega)
    go_enter Tryz.func247,Tryz.ntmps247
    go_wp2_with fail
    go_ret
    refine⟨?_,rfl⟩
    rw[HB.out,Xel (lo:=128) (hi:=191) (by rw[if_neg (fun h'=>h h'.2),if_neg (fun h'=>h3 h'.2)]) (by rw[if_neg (fun h'=>h2 h'.2),if_neg (fun h'=>h4 h'.2)]) rfl]
    exact Xa3 (by rw[Bool.eq_iff_iff];simp only[Bool.and_eq_true,decide_eq_true_eq,false_iff,Bool.false_eq_true];omega)
  ·rcases(by omega:c<160∨(160≤c∧c≤191)∨191<c) with a|⟨a,a'⟩|a
   all_goals
    go_enter Tryz.func247,Tryz.ntmps247
    go_wp2_with fail
    go_ret
    refine⟨?_,rfl⟩
    rw[HB.out,Xel (lo:=160) (hi:=191) (by rfl) (by rfl) rfl]
    exact Xa3 (by rw[Bool.eq_iff_iff];simp only[Bool.and_eq_true,decide_eq_true_eq,false_iff,Bool.false_eq_true];omega)
  ·rcases(by omega:c<128∨(128≤c∧c≤159)∨159<c) with a|⟨a,a'⟩|a
   all_goals
    go_enter Tryz.func247,Tryz.ntmps247
    go_wp2_with fail
    go_ret
    refine⟨?_,rfl⟩
    rw[HB.out,Xel (lo:=128) (hi:=159) (by rfl) (by rfl) rfl]
    exact Xa3 (by rw[Bool.eq_iff_iff];simp only[Bool.and_eq_true,decide_eq_true_eq,false_iff,Bool.false_eq_true];omega)
  ·rcases(by omega:c<144∨(144≤c∧c≤191)∨191<c) with a|⟨a,a'⟩|a
   all_goals
    go_enter Tryz.func247,Tryz.ntmps247
    go_wp2_with fail
    go_ret
    refine⟨?_,rfl⟩
    rw[HB.out,Xel (lo:=144) (hi:=191) (by rfl) (by rfl) rfl]
    exact Xa3 (by rw[Bool.eq_iff_iff];simp only[Bool.and_eq_true,decide_eq_true_eq,false_iff,Bool.false_eq_true];omega)
  ·rcases(by omega:c<128∨(128≤c∧c≤143)∨143<c) with a|⟨a,a'⟩|a
   all_goals
    go_enter Tryz.func247,Tryz.ntmps247
    go_wp2_with fail
    go_ret
    refine⟨?_,rfl⟩
    rw[HB.out,Xel (lo:=128) (hi:=143) (by rfl) (by rfl) rfl]
    exact Xa3 (by rw[Bool.eq_iff_iff];simp only[Bool.and_eq_true,decide_eq_true_eq,false_iff,Bool.false_eq_true];omega)
 ·rcases(by omega:c<128∨(128≤c∧c≤191)∨191<c) with a|⟨a,a'⟩|a
  all_goals
   have q0:((i:Int)==1)=false:=Xak (by omega)
   go_enter Tryz.func247,Tryz.ntmps247
   go_wp2_with fail
   go_ret
   refine⟨?_,rfl⟩
   rw[HB.out,Xel (lo:=128) (hi:=191) (by rw[if_neg (fun h'=>h1 h'.1),if_neg (fun h'=>h1 h'.1)]) (by rw[if_neg (fun h'=>h1 h'.1),if_neg (fun h'=>h1 h'.1)]) rfl]
   exact Xa3 (by rw[Bool.eq_iff_iff];simp only[Bool.and_eq_true,decide_eq_true_eq,false_iff,Bool.false_eq_true];omega)
def Xtf (l:List Nat) (w:World) (e:Ending) (w':World):Prop:=
 ∃n:Nat,e=.returned (.tuple #[.int .i64 (n:Int),.bool (Xb6 l)])∧n≤l.length∧n≤4∧(Xb6 l=true→n=rn l)∧Dr w w'
theorem Xzu (s:ByteArray) (c:Nat) (hc:c=(bs s).getD 0 0) (h:0<s.size) (w:World):(Instr.index 9 (.string s) (.int .i64 0)).run Tryz.prog w=.ok (.int .u8 (c:Int)) w:=by
 rw[Xa7 9 Tryz.underlying9 s .i64 0 0 rfl h,hc]
theorem Xa8 (s:ByteArray) (i:Nat):(bs s).getD i 0<256:=by
 by_cases h:i<(bs s).length
 ·have:=Xga s (bs s)[i] (List.getElem_mem h)
  simpa [List.getD,h] using this
 ·simp[List.getD,h]
theorem Xs8 {s:ByteArray} (h:s.size=0):bs s=[]:=List.length_eq_zero_iff.1 (by rw[Xaa];exact h)
theorem Xea {s:ByteArray} (h:s.size=0):s=⟨#[]⟩:=by
 rw[←Xds s,Xs8 h];rfl
theorem Xdr {s:ByteArray} (h:s.size≠0):s.toList.isEmpty=false:=by
 rw[List.isEmpty_eq_false_iff];intro e;apply h
 rw[←Xaa,bs,←ByteArray.toList_eq,e];rfl
set_option maxHeartbeats 1000000 in
theorem Xjv (s:ByteArray) (w:World) (hs:s.size≤maxLen):
    Calls Tryz.prog 222 #[.string s] w (Xtf (bs s) w):=by
 unfold maxLen at hs
 by_cases h0:s.size=0
 ·obtain rfl:=Xea h0
  clear h0 hs
  go_enter Tryz.func222,Tryz.ntmps222
  go_wp2_with fail
  go_ret2
  exact⟨0,rfl,by simp,by omega,(fun h=>by cases h),Dr.refl _⟩
 ·obtain⟨f,hf⟩:∃f,f=(bs s).getD 0 0:=⟨_,rfl⟩
  have hf2:f<256:=by rw[hf];exact Xa8 s 0
  have x0:=Xzu s f hf (by omega)
  have n0:=Xdr h0
  obtain⟨z,hz⟩:∃z,z=Xf2 f:=⟨_,rfl⟩
  have hz4:z≤4:=by rw[hz];exact Xjc f
  have L0:Hid (∀w,Calls Tryz.prog 246 #[.int .u8 (f:Int)] w fun e w'=>e=.returned (.int .i64 (z:Int))∧w=w'):=fun w=>by rw[hz];exact Xz7 w f hf2
  have HF:=Hd hf;have HZ:=Hd hz
  clear hf hz
  by_cases hz0:z=0
  ·have z1:((z:Int)==0)=true:=Xa6 (by omega)
   go_enter Tryz.func222,Tryz.ntmps222
   go_wp2_with (go_at_call 246;refine(L0.out _).mono ?_;rintro e w' ⟨rfl,rfl⟩)
   go_ret2
   have hw:Xb6 (bs s)=false:=Xiq _ (by rw[←HF.out,←HZ.out];exact fun h=>h.1 hz0)
   exact⟨0,by rw[hw];rfl,by simp,by omega,(fun h=>by rw[hw] at h;cases h),Dr.refl _⟩
  ·have z1:((z:Int)==0)=false:=Xak (by omega)
   go_enter Tryz.func222,Tryz.ntmps222
   go_wp2_with (go_at_call 246;refine(L0.out _).mono ?_;rintro e w' ⟨rfl,rfl⟩)
   go_loopg [2] 3 (fun k i wr=>∃n:Nat,1≤n∧n≤z∧n≤s.size∧k=4-n∧i=.int .i64 (n:Int)∧Hid (∀j,1≤j→j<n→Xgl f j ((bs s).getD j 0)=true)∧Dr w wr)
   case atStart=>exact⟨1,by omega,by omega,by omega,rfl,rfl,(fun j a b=>by omega),Dr.refl _⟩
   case round=>
    obtain⟨n,h1,h2,h3,rfl,rfl,hc,hd⟩:=hrel
    have exit:∀(b:Bool) (w':World),Dr w w'→b=((n:Int)==(z:Int))→(n=z∨(n<z∧(s.size≤n∨Xgl f n ((bs s).getD n 0)=false)))→Xtf (bs s) w (.returned (.tuple #[.int .i64 (n:Int),.bool b])) w':=by
     intro b w' hd' hb hex
     rcases hex with rfl|⟨hlt,hno⟩
     ·have hw:Xb6 (bs s)=true:=(Xb9 _).2 (by rw[←HF.out,←HZ.out];exact⟨hz0,by rw[Xaa];exact h3,hc.out⟩)
      exact⟨n,by rw[hb,hw];simp,by rw[Xaa];exact h3,by omega,(fun _=>by rw[(Xfc hw).1,←HF.out,←HZ.out]),hd'⟩
     ·have hw:Xb6 (bs s)=false:=Xiq _ (by
         rw[←HF.out,←HZ.out,Xaa];rintro⟨_,k2,k3⟩
         rcases hno with h|h
         ·omega
         ·rw[k3 n h1 hlt] at h;cases h)
      exact⟨n,by rw[hb,hw,Xak (by omega)],by rw[Xaa];exact h3,by omega,(fun h=>by rw[hw] at h;cases h),hd'⟩
    have EX:=Hd exit;have HD:=Hd hd
    clear exit hd
    by_cases a:n<z
    ·have a1:decide ((n:Int)<(z:Int))=true:=by simpa using a
     have z3:((n:Int)==(z:Int))=false:=Xak (by omega)
     by_cases b:n<s.size
     ·have b1:decide ((n:Int)<(s.size:Int))=true:=by simpa using b
      obtain⟨c,hcc⟩:∃c,c=(bs s).getD n 0:=⟨_,rfl⟩
      have hc2:c<256:=by rw[hcc];exact Xa8 s n
      have xn:∀w,(Instr.index 9 (.string s) (.int .i64 (n:Int))).run Tryz.prog w=.ok (.int .u8 (c:Int)) w:=fun w=>by rw[Xa7 9 Tryz.underlying9 s .i64 n n rfl b,hcc]
      by_cases u:Xgl f n c=true
      ·have CC:Hid (∀q,Calls Tryz.prog 247 #[.int .u8 (f:Int),.int .i64 (n:Int),.int .u8 (c:Int)] (wr.drewN q) fun e w'=>e=.returned (.bool true)∧w'=wr.drewN q):=fun q=>(Xnr _ f n c hf2 (by omega) hc2).mono fun e w' h=>⟨by rw[←u];exact h.1,h.2.symm⟩
       have U:=Hd u;have HCC:=Hd hcc
       clear u hcc
       go_wp2_with fail
       go_quiet ((go_at_call 247;exact Calls.quiet_of_same (CC.out _)))
       go_wp2_with fail
       go_roundg (4-(n+1))
       case measure=>omega
       case rel=>exact⟨n+1,by omega,by omega,by omega,rfl,by go_num,(fun j k1 k2=>by
        by_cases e:j=n
        ·rw[e,←HCC.out];exact U.out
        ·exact hc.out j k1 (by omega)),HD.out.drewN _⟩
      ·have u':Xgl f n c=false:=by simpa using u
       have CC:Hid (∀q,Calls Tryz.prog 247 #[.int .u8 (f:Int),.int .i64 (n:Int),.int .u8 (c:Int)] (wr.drewN q) fun e w'=>e=.returned (.bool false)∧w'=wr.drewN q):=fun q=>(Xnr _ f n c hf2 (by omega) hc2).mono fun e w' h=>⟨by rw[←u'];exact h.1,h.2.symm⟩
       have U:=Hd u';have HCC:=Hd hcc
       clear u u' hcc
       go_wp2_with fail
       go_quiet ((go_at_call 247;exact Calls.quiet_of_same (CC.out _)))
       go_wp2_with fail
       go_ret2
       exact EX.out _ _ (HD.out.drewN _) (Xak (by omega)).symm (.inr ⟨a,.inr (by rw[←HCC.out];exact U.out)⟩)
     ·have b1:decide ((n:Int)<(s.size:Int))=false:=by simpa using b
      go_wp2_with fail
      go_quiet (fail)
      go_wp2_with fail
      go_ret2
      exact EX.out _ _ (HD.out.drewN _) (Xak (by omega)).symm (.inr ⟨a,.inl (by omega)⟩)
    ·have a1:decide ((n:Int)<(z:Int))=false:=by simpa using a
     have z3:((n:Int)==(z:Int))=true:=Xa6 (by omega)
     go_wp2_with fail
     go_quiet (fail)
     go_wp2_with fail
     go_ret2
     exact EX.out _ _ (HD.out.drewN _) (Xa6 (by omega)).symm (.inl (by omega))
def Ygh (w:World) (e:Ending) (w':World):Prop:=∃r:Int,e=.returned (.int .i32 r)∧w=w'
set_option maxHeartbeats 1000000 in
theorem Xtn (s:ByteArray) (w:World) (h0:0<s.size) (hs:s.size≤4):
    Calls Tryz.prog 223 #[.string s] w (Ygh w):=by
 obtain⟨f,hf⟩:∃f,f=(bs s).getD 0 0:=⟨_,rfl⟩
 have hf2:f<256:=by rw[hf];exact Xa8 s 0
 have x0:=Xzu s f hf h0
 clear hf
 by_cases h1:1<s.size
 all_goals
  go_enter Tryz.func223,Tryz.ntmps223
  go_wp2_with fail
  go_loopg [3,4] 3 (fun k r i wr=>∃(n:Nat) (x:Int),1≤n∧n≤s.size∧k=4-n∧i=.int .i64 (n:Int)∧r=.int .i32 x∧w=wr)
  case atStart=>exact⟨1,_,by omega,by omega,rfl,rfl,rfl,rfl⟩
  case round=>
   obtain⟨n,x,hn,hn2,rfl,rfl,rfl,rfl⟩:=hrel
   by_cases b:n<s.size
   ·obtain⟨c,hcc⟩:∃c,c=(bs s).getD n 0:=⟨_,rfl⟩
    have hc2:c<256:=by rw[hcc];exact Xa8 s n
    have xn:∀w,(Instr.index 9 (.string s) (.int .i64 (n:Int))).run Tryz.prog w=.ok (.int .u8 (c:Int)) w:=fun w=>by rw[Xa7 9 Tryz.underlying9 s .i64 n n rfl b,hcc]
    clear hcc
    go_wp2_with fail
    go_roundg (4-(n+1))
    case measure=>omega
    case rel=>exact⟨n+1,_,by omega,by omega,rfl,by go_num,rfl,rfl⟩
   ·go_wp2_with fail
    go_ret
    exact⟨_,rfl,rfl⟩
theorem Xby (t:ByteArray) (a b:Nat):bs (t.extract a b)=((bs t).take b).drop a:=by
 unfold bs
 simp[ByteArray.data_extract,Array.toList_extract,List.extract_eq_take_drop,List.drop_take]
theorem Xnb (t:ByteArray) (a:Nat):bs (t.extract a t.size)=(bs t).drop a:=by
 rw[Xby,List.take_of_length_le (by rw[Xaa];exact Nat.le_refl _)]
theorem Yf4 (t:ByteArray) (b:Nat):bs (t.extract 0 b)=(bs t).take b:=by
 rw[Xby];simp
def Yiw (l:List Nat) (w:World) (e:Ending) (w':World):Prop:=
 ∃(r:Int) (er:Int),e=.returned (.tuple #[.int .i32 r,.int .i64 (rn l:Int),.int .i64 er])∧(rn l≠0→er=0)∧(rn l=0→er≠0)∧Dr w w'
set_option maxHeartbeats 1000000 in
theorem Xpq (s:ByteArray) (w:World) (hs:s.size≤maxLen):
    Calls Tryz.prog 181 #[.string s] w (Yiw (bs s) w):=by
 have M:=Hd (Xjv s w hs)
 unfold maxLen at hs
 by_cases h0:s.size=0
 ·obtain rfl:=Xea h0
  clear h0 hs M
  go_enter Tryz.func181,Tryz.ntmps181
  go_wp2_with fail
  go_ret3
  exact⟨0,1,rfl,(fun h=>absurd rfl h),(fun _=>by decide),Dr.refl _⟩
 ·have n0:=Xdr h0
  go_enter Tryz.func181,Tryz.ntmps181
  go_wp2_with fail
  refine M.out.mono ?_
  rintro e w1 ⟨n,rfl,hn,hn4,hw,hd⟩
  rw[Xaa] at hn
  cases hb:Xb6 (bs s)
  ·have hr:=Xjl hb
   have HR:=Hd hr
   clear hw hr hb M
   by_cases z:n=0
   ·have z1:((n:Int)==0)=true:=Xa6 (by omega)
    go_wp2_with fail
    go_ret3
    exact⟨0,6,by rw[HR.out];rfl,(fun h=>absurd HR.out h),(fun _=>by decide),hd⟩
   ·have z1:((n:Int)==0)=false:=Xak (by omega)
    by_cases y:n=s.size
    ·have y1:((n:Int)==(s.size:Int))=true:=Xa6 (by omega)
     go_wp2_with fail
     go_ret3
     exact⟨0,23,by rw[HR.out];rfl,(fun h=>absurd HR.out h),(fun _=>by decide),hd⟩
    ·have y1:((n:Int)==(s.size:Int))=false:=Xak (by omega)
     go_wp2_with fail
     go_ret3
     exact⟨0,3,by rw[HR.out];rfl,(fun h=>absurd HR.out h),(fun _=>by decide),hd⟩
  ·obtain rfl:=hw hb
   have hp:=(Xfc hb).2
   obtain⟨n,hn'⟩:∃n,n=rn (bs s):=⟨_,rfl⟩
   rw[←hn'] at hn hn4 hp⊢
   have HN:=Hd hn'
   clear hw hb M hn'
   go_wp2_with (go_at_call 223;refine(Xtn _ _ (by rw[ByteArray.size_extract];omega) (by rw[ByteArray.size_extract];omega)).mono ?_;rintro e w' ⟨r,rfl,rfl⟩)
   go_ret3
   exact⟨r,0,by rw[HN.out];rfl,(fun _=>rfl),(fun h=>by rw[HN.out] at hp;omega),hd⟩
def Yi1 (l:List Nat) (w:World) (e:Ending) (w':World):Prop:=
 ∃(n:Nat) (er:Int),e=.returned (.tuple #[.int .i64 (n:Int),.int .i64 er])∧(vld l=true→er=0)∧(vld l=false→er≠0)∧Dr w w'
set_option maxHeartbeats 1000000 in
theorem Xlf (s:ByteArray) (w:World) (hs:s.size≤maxLen):
    Calls Tryz.prog 149 #[.string s] w (Yi1 (bs s) w):=by
 have hs':=hs
 have HS:=Hd hs'
 clear hs'
 unfold maxLen at hs
 go_enter Tryz.func149,Tryz.ntmps149
 go_wp2_with fail
 go_loopg [4] s.size (fun k i wr=>∃n:Nat,n≤s.size∧k=s.size-n∧i=.int .i64 (n:Int)∧Hid (vld (bs s)=vld ((bs s).drop n))∧Dr w wr)
 case atStart=>exact⟨0,by omega,rfl,rfl,rfl,Dr.refl _⟩
 case round=>
  obtain⟨n,hn,rfl,rfl,hv,hd⟩:=hrel
  by_cases b:n<s.size
  ·have hsz:(s.extract n s.size).size=s.size-n:=by rw[ByteArray.size_extract];omega
   have D:=Hd (Xpq (s.extract n s.size) wr (by rw[hsz];unfold maxLen;omega))
   have hl:=(Xpy ((bs s).drop n)).1
   rw[List.length_drop,Xaa] at hl
   clear hsz
   go_wp2_with fail
   refine D.out.mono ?_
   rintro e w1 ⟨r,er,rfl,h1,h2,hd1⟩
   rw[Xnb] at h1 h2⊢
   obtain⟨m,hm⟩:∃m,m=rn ((bs s).drop n):=⟨_,rfl⟩
   rw[←hm] at hl h1 h2⊢
   have hne:(bs s).drop n≠[]:=by intro e;have:=congrArg List.length e;rw[List.length_drop,Xaa] at this;simp at this;omega
   have hst:=Xmb hne
   rw[←hm,List.drop_drop] at hst
   by_cases z:m=0
   ·have q:=h2 z
    have q1:(er !=0)=true:=Xam q
    have ST:=Hd hst;have H2:=Hd h2;have H1:=Hd h1
    clear hst hm h1 h2 hne D
    go_wp2_with fail
    go_ret2
    exact⟨n,_,rfl,(fun h=>by rw[hv.out,ST.out,z] at h;simp at h),(fun _=>q),hd.trans hd1⟩
   ·obtain rfl:=h1 z
    have ST:=Hd hst
    clear hst hm h1 h2 hne D
    go_wp2_with fail
    go_roundg (s.size-(n+m))
    case measure=>omega
    case rel=>exact⟨n+m,by omega,rfl,by go_num,Hd (by rw[hv.out,ST.out];simp[z]),hd.trans hd1⟩
  ·go_wp2_with fail
   go_ret2
   exact⟨0,_,rfl,(fun _=>rfl),(fun h=>by rw[hv.out,List.drop_of_length_le (by rw[Xaa];omega)] at h;cases h),hd⟩
theorem Xto (s:ByteArray) (w:World) (hs:s.size≤maxLen):
    Calls Tryz.prog 141 #[.string s] w fun e w'=>e=.returned (.bool (vld (bs s)))∧Dr w w':=by
 have C:=Hd (Xlf s w hs)
 clear hs
 go_enter Tryz.func141,Tryz.ntmps141
 go_wp2_with fail
 refine C.out.mono ?_
 rintro e w1 ⟨n,er,rfl,h1,h2,hd⟩
 cases hv:vld (bs s)
 ·have q:(er==0)=false:=Xak (h2 hv)
  have HV:=Hd hv
  clear h1 h2 hv C
  go_wp2_with fail
  go_ret
  exact⟨by rw[HV.out];rfl,hd⟩
 ·obtain rfl:=h1 hv
  have HV:=Hd hv
  clear h1 h2 hv C
  go_wp2_with fail
  go_ret
  exact⟨by rw[HV.out];rfl,hd⟩
def Yc4 (l:List Nat):Nat:=if l.length≤1 then l.getD 0 0 else l.getD 0 0%2^(7-l.length)
def vst (l:List Nat) (n:Nat):Nat:=((l.take n).drop 1).foldl (fun r x=>r*64+x%64) (Yc4 l)
theorem Xrm (l:List Nat) (n:Nat) (h1:1≤n) (h:n<l.length):vst l (n+1)=vst l n*64+l.getD n 0%64:=by
 unfold vst
 rw[List.take_succ_eq_append_getElem h,List.drop_append_of_le_length (by simp;omega),List.foldl_append]
 simp[List.getD,List.getElem?_eq_getElem h]
theorem Xpn (l:List Nat):vst l 1=Yc4 l:=by
 unfold vst;cases l<;>simp
theorem Yfw (l:List Nat) (h:rn l≠0):cpt l=vst (l.take (rn l)) (rn l):=by
 have hl:=(Xpy l).1
 unfold cpt vst Yc4
 rw[List.take_take,Nat.min_self,List.length_take,Nat.min_eq_left hl]
 have e:(l.take (rn l)).getD 0 0=l.getD 0 0:=by
  simp only[List.getD_eq_getElem?_getD,List.getElem?_take,if_pos (show 0<rn l by omega)]
 rw[e]
theorem Yd3 (l:List Nat) (hb:l.getD 0 0<256) (h:1<l.length) (h4:l.length≤4):Yc4 l<2^(7-l.length):=by
 unfold Yc4;rw[if_neg (by omega)];exact Nat.mod_lt _ (Nat.two_pow_pos _)
theorem Ygv (l:List Nat) (hb:l.getD 0 0<256) (h1:1<l.length) (h4:l.length≤4):∀n,1≤n→n≤l.length→vst l n<2^(7-l.length)*64^(n-1):=by
 intro n hn
 induction n with
 |zero=>omega
 |succ n ih=>
  intro hle
  by_cases h:n=0
  ·subst h;rw[Xpn];simpa using Yd3 l hb h1 h4
  ·have:=ih (by omega) (by omega)
   rw[Xrm l n (by omega) (by omega)]
   have e:64^(n+1-1)=64^(n-1)*64:=by rw[←Nat.pow_succ];congr 1;omega
   rw[e,←Nat.mul_assoc]
   have hm:l.getD n 0%64<64:=Nat.mod_lt _ (by decide)
   omega
theorem Yd1 (l:List Nat) (hb:l.getD 0 0<256) (h1:1<l.length) (h4:l.length≤4) (n:Nat) (hn:1≤n) (hle:n<l.length):vst l n<32768:=by
 have:=Ygv l hb h1 h4 n hn (by omega)
 rcases(by omega:l.length=2∨l.length=3∨l.length=4) with h|h|h
 ·rw[h] at this hle;obtain rfl:n=1:=by omega
  simp at this;omega
 ·rw[h] at this hle
  rcases(by omega:n=1∨n=2) with rfl|rfl<;>simp at this<;>omega
 ·rw[h] at this hle
  rcases(by omega:n=1∨n=2∨n=3) with rfl|rfl|rfl<;>simp at this<;>omega
theorem Yge (k:Nat) (hk:k≤7) (c:Nat) (hc:c<256):Go.bits .and .i32 (c:Int) ((2:Int)^k-1)=((c%2^k:Nat):Int):=by
 rw[bits_mask .i32 31 (by decide) wraps_i32 k (by omega) (c:Int) (by omega) (by omega)]
 simp
theorem Yj2 (c:Nat) (hc:c<256):Go.bits .and .u8 (c:Int) 63=((c%64:Nat):Int):=by
 rw[u8_and63 _ (by omega) (by omega)];simp
theorem or6 (r c:Nat) (hr:r<32768) (hc:c<64):Go.bits .or .i32 ((r:Int)*64) (c:Int)=((r*64+c:Nat):Int):=by
 have:=bits_join .i32 31 (by decide) wraps_i32 6 ((r:Int)*64) (c:Int) (by omega) (by omega) (by omega) (by omega) (by omega) (by omega)
 rw[this];simp
set_option maxHeartbeats 1000000 in
theorem Xvr (s:ByteArray) (w:World) (h0:0<s.size) (hs:s.size≤4):
    Calls Tryz.prog 223 #[.string s] w fun e w'=>e=.returned (.int .i32 ((vst (bs s) s.size:Nat):Int))∧w=w':=by
 obtain⟨f,hf⟩:∃f,f=(bs s).getD 0 0:=⟨_,rfl⟩
 have hf2:f<256:=by rw[hf];exact Xa8 s 0
 have x0:=Xzu s f hf h0
 have hl:=Xaa s
 by_cases h1:s.size=1
 ·have R:Hid (vst (bs s) s.size=f):=Hd (by rw[h1,Xpn];unfold Yc4;rw[if_pos (by omega),hf])
  have d1:decide ((1:Int)<(s.size:Int))=false:=by simp;omega
  clear hf hl
  go_enter Tryz.func223,Tryz.ntmps223
  go_wp2_with fail
  go_loopg [3,4] 3 (fun k r i wr=>r=.int .i32 (f:Int)∧i=.int .i64 1∧w=wr)
  case atStart=>exact⟨rfl,rfl,rfl⟩
  case round=>
   obtain⟨rfl,rfl,rfl⟩:=hrel
   go_wp2_with fail
   go_ret
   exact⟨by rw[R.out];rfl,rfl⟩
 ·have h2:1<s.size:=by omega
  have R:Hid (∀k,k=7-s.size→((Yc4 (bs s):Nat):Int)=Go.bits .and .i32 (f:Int) ((2:Int)^k-1)):=Hd (by
   intro k hk;rw[Yge k (by omega) f hf2];unfold Yc4;rw[if_neg (by omega),hl,←hf,hk])
  have V:Hid (∀n,1≤n→n<s.size→vst (bs s) n<32768):=Hd (fun n a b=>Yd1 (bs s) (by rw[←hf];exact hf2) (by omega) (by omega) n a (by omega))
  have N:Hid (∀n,1≤n→n<s.size→vst (bs s) (n+1)=vst (bs s) n*64+(bs s).getD n 0%64):=Hd (fun n a b=>Xrm _ n a (by omega))
  have d1:decide ((1:Int)<(s.size:Int))=true:=by simp;omega
  clear hf hl
  have HS:=hs
  rcases(by omega:s.size=2∨s.size=3∨s.size=4) with h|h|h
  all_goals
   have R2:=R.out (7-s.size) rfl
   rw[h] at R2
   simp only[Nat.reduceSub,Int.reducePow,Int.reduceSub] at R2
   have R3:=Hd R2
   clear R2
   have L:((s.size:Nat):Int)=_:=congrArg _ h
   go_enter Tryz.func223,Tryz.ntmps223
   go_wp2_with fail
   go_loopg [3,4] 3 (fun k r i wr=>∃(n:Nat),1≤n∧n≤s.size∧k=4-n∧i=.int .i64 (n:Int)∧r=.int .i32 ((vst (bs s) n:Nat):Int)∧w=wr)
   case atStart=>exact⟨1,by omega,by omega,rfl,rfl,by rw[Xpn,R3.out],rfl⟩
   case round=>
    obtain⟨n,hn,hn2,rfl,rfl,rfl,rfl⟩:=hrel
    by_cases b:n<s.size
    ·obtain⟨c,hcc⟩:∃c,c=(bs s).getD n 0:=⟨_,rfl⟩
     have hc2:c<256:=by rw[hcc];exact Xa8 s n
     have xn:∀w,(Instr.index 9 (.string s) (.int .i64 (n:Int))).run Tryz.prog w=.ok (.int .u8 (c:Int)) w:=fun w=>by rw[Xa7 9 Tryz.underlying9 s .i64 n n rfl b,hcc]
     obtain⟨x,hx⟩:∃x,x=vst (bs s) n:=⟨_,rfl⟩
     have hx2:x<32768:=by rw[hx];exact V.out n hn b
     rw[←hx]
     have NX:Hid (vst (bs s) (n+1)=x*64+c%64):=Hd (by rw[hx,hcc];exact N.out n hn b)
     have a63:=Yj2 c hc2
     have o6:=or6 x (c%64) hx2 (Nat.mod_lt _ (by decide))
     clear hcc hx h
     go_wp2_with fail
     go_roundg (4-(n+1))
     case measure=>omega
     case rel=>exact⟨n+1,by omega,by omega,rfl,by go_num,by rw[NX.out];first|rfl|(congr 1),rfl⟩
    ·obtain rfl:n=s.size:=by omega
     go_wp2_with fail
     go_ret
     exact⟨rfl,rfl⟩
end Go.Proofs.YtohmdledkhgdaaaGreatDoor
