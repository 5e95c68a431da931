/- Laws on loads, stores, builds and comparisons of values of many cells. -/
import Derived.Test.YtohmdledkhgdaaaGreatDoorPa01
import Derived.StillTailTactics
import Derived.BigRegion
import Derived.Deep.RegionWith
import Derived.Deep.LoopGhost
import Derived.Deep.DeepCutAuto
namespace Go.Proofs.YtohmdledkhgdaaaGreatDoor
open Go.RowKit Go.Maps
set_option linter.unusedVariables false
set_option maxRecDepth 100000
theorem Xgt (l:List Nat):∀j u,(idA l)[j]?=some u→(idA l)[0+j]?=some u:=fun j u hu=>by rw[Nat.zero_add];exact hu
theorem Xqs {P:Program} {o:Oper} {a:Act} {w:World} {v:Value} {t:TypeId} {i j:Nat} {x y:Operand} {vx vy:Value} (ho:o.op=.build t #[(i,x),(j,y)]) (hx:a.eval x=vx) (hy:a.eval y=vy) (hb:(Instr.build t #[(i,vx),(j,vy)]).run P w=.ok v w):(execOp a.eval o).run P w=.ok (.value v) w:=by
 refine Xcr ho ?_
 simpa [hx,hy] using hb
section
variable {P:Program} {ops:Array Oper} {rest:List Oper} {o:Oper} {a:Act} {w:World} {Q:Exit→Act→World→Prop}
theorem Xac (ty:TypeId) (hgd:o.guard=none) (x:Operand) (ho:o.op=.load ty x) (h:∃ad v,a.eval x=.pointer (some ad)∧(loadVar ty ad).run P w=.ok v w∧wpList P ops Q rest (a.put o.dst v) w):wpList P ops Q (o::rest) a w:=by
 obtain⟨ad,v,h1,h2,h3⟩:=h
 exact Xaz hgd (Xaw ho h1 h2) h3
theorem Xgz (t:TypeId) (hgd:o.guard=none) {i j:Nat} (x y:Operand) (ho:o.op=.build t #[(i,x),(j,y)]) (h:∃vx vy v,a.eval x=vx∧a.eval y=vy∧(Instr.build t #[(i,vx),(j,vy)]).run P w=.ok v w∧wpList P ops Q rest (a.put o.dst v) w):wpList P ops Q (o::rest) a w:=by
 obtain⟨vx,vy,v,h1,h2,h3,h4⟩:=h
 exact Xaz hgd (Xqs ho h1 h2 h3) h4
theorem Xab (t:TypeId) (hgd:o.guard=none) (x y:Operand) (ho:o.op=.store t x y) (h:∃ad u w',a.eval x=.pointer (some ad)∧a.eval y=u∧(storeVar t ad u).run P w=.ok () w'∧wpList P ops Q rest (a.put o.dst undef) w'):wpList P ops Q (o::rest) a w:=by
 obtain⟨ad,u,w',h1,h2,h3,h4⟩:=h
 exact Xe8 hgd (Xax ho h1 h2 h3) h4
theorem Xld (t:TypeId) (hgd:o.guard=none) (x y:Operand) {t':TypeId} (ho:o.op=.binOp .neq t x y t') (hm:P.eqGuardType P.depth t=false) (h:∃xs ys r,a.eval x=.agg xs∧a.eval y=.agg ys∧(Op.equal t (.agg xs) (.agg ys)).run P w=.ok r w∧wpList P ops Q rest (a.put o.dst (.bool !r)) w):wpList P ops Q (o::rest) a w:=by
 obtain⟨xs,ys,r,h1,h2,h3,h4⟩:=h
 exact Xaz hgd (Xm2 ho h1 h2 hm h3) h4
theorem Xc4 (t:TypeId) (hgd:o.guard=none) (x y:Operand) {t':TypeId} (ho:o.op=.binOp .eql t x y t') (hm:P.eqGuardType P.depth t=false) (h:∃xs ys r,a.eval x=.agg xs∧a.eval y=.agg ys∧(Op.equal t (.agg xs) (.agg ys)).run P w=.ok r w∧wpList P ops Q rest (a.put o.dst (.bool r)) w):wpList P ops Q (o::rest) a w:=by
 obtain⟨xs,ys,r,h1,h2,h3,h4⟩:=h
 exact Xaz hgd (Xsz ho h1 h2 hm h3) h4
theorem Xh3 {Q:Act→Prop} (ty:TypeId) (hgd:o.guard=none) (x:Operand) (ho:o.op=.load ty x) (h:∃ad v,a.eval x=.pointer (some ad)∧(loadVar ty ad).run P w=.ok v w∧wpStill P ops w Q rest (a.put o.dst v)):wpStill P ops w Q (o::rest) a:=by
 obtain⟨ad,v,h1,h2,h3⟩:=h
 refine wpStill_step fun K hK=>?_
 rw[if_pos (by simp[Region.wanted,hgd])]
 unfold Oper.still
 rw[Xaw ho h1 h2]
 exact⟨rfl,hK _ h3⟩
theorem Xd5 {Q:Act→Prop} {C:World→Prop} (ty:TypeId) (hgd:Region.wanted o (yielded ops a.tmps)=true) (x:Operand) (ho:o.op=.load ty x) (h:∃ad v,a.eval x=.pointer (some ad)∧(∀w,C w→(loadVar ty ad).run P w=.ok v w)∧wpQuiet P ops C Q rest (a.put o.dst v)):wpQuiet P ops C Q (o::rest) a:=by
 obtain⟨ad,v,h1,h2,h3⟩:=h
 exact BigFrame.wpQuiet_want hgd fun K hK=>Xjo (fun w hw=>Xaw ho h1 (h2 w hw)) (hK _ h3)
theorem Xpl {Q:Act→Prop} {C:World→Prop} (t:TypeId) (hgd:Region.wanted o (yielded ops a.tmps)=true) (x y:Operand) {t':TypeId} (ho:o.op=.binOp .neq t x y t') (hm:P.eqGuardType P.depth t=false) (h:∃xs ys r,a.eval x=.agg xs∧a.eval y=.agg ys∧(∀w,(Op.equal t (.agg xs) (.agg ys)).run P w=.ok r w)∧wpQuiet P ops C Q rest (a.put o.dst (.bool !r))):wpQuiet P ops C Q (o::rest) a:=by
 obtain⟨xs,ys,r,h1,h2,h3,h4⟩:=h
 exact BigFrame.wpQuiet_want hgd fun K hK=>Xjo (fun w hw=>Xm2 ho h1 h2 hm (h3 w)) (hK _ h4)
theorem Xpm {Q:Act→Prop} {C:World→Prop} (t:TypeId) (hgd:Region.wanted o (yielded ops a.tmps)=true) (x y:Operand) {t':TypeId} (ho:o.op=.binOp .eql t x y t') (hm:P.eqGuardType P.depth t=false) (h:∃xs ys r,a.eval x=.agg xs∧a.eval y=.agg ys∧(∀w,(Op.equal t (.agg xs) (.agg ys)).run P w=.ok r w)∧wpQuiet P ops C Q rest (a.put o.dst (.bool r))):wpQuiet P ops C Q (o::rest) a:=by
 obtain⟨xs,ys,r,h1,h2,h3,h4⟩:=h
 exact BigFrame.wpQuiet_want hgd fun K hK=>Xjo (fun w hw=>Xsz ho h1 h2 hm (h3 w)) (hK _ h4)
end
end Go.Proofs.YtohmdledkhgdaaaGreatDoor
/- Walk of regroup and its closures: groups of 'fr' bits come in, groups of 'tt' bits go out through 'pass'. -/
namespace Go.Proofs.YtohmdledkhgdaaaGreatDoor
open Go.RowKit
set_option linter.unusedVariables false
def BoxI (w:World) (b:Nat) (n:Nat):Prop:=w.heap[b]?=some (.cells #[.int .i64 n] 3 (0,0))
structure RG (B fr tt pf bits count:Nat) (xs:List Nat) (w:World):Prop where
 bBits:BoxI w (B+5) bits
 bFrom:BoxI w (B+2) fr
 bCount:BoxI w (B+6) count
 bTo:BoxI w (B+3) tt
 bPass:w.heap[B+4]?=some (.cells #[.func (.func pf) #[] #[.pointer (some ⟨B+1,0,none⟩)]] 81 (0,0))
 txt:∃v,w.heap[B+1]?=some (.cells #[v] 62 (0,0))∧w.ownsRow B 5 1 v xs.length (xs.map U)
def Xte (w0:World) (B pf m:Nat) (f:Nat→Nat):Prop:=
 ∀(w:World) (v:Value) (xs:List Nat) (g:Nat),Below B w0 w→w.heap[B+1]?=some (.cells #[v] 62 (0,0))→w.ownsRow B 5 1 v xs.length (xs.map U)→xs.length≤1000000→g<m→
  Calls Tryz.prog pf #[.int .i64 g,.pointer (some ⟨B+1,0,none⟩)] w fun e w'=>e=.returned (.tuple #[])∧
   (∃v',w'.heap[B+1]?=some (.cells #[v'] 62 (0,0))∧w'.ownsRow B 5 1 v' (xs.length+1) ((xs++[f g]).map U))∧Frame1 B (B+1) v w w'
theorem Xrd (a b:Nat) (ha:a<9223372036854775808) (hb:b<9223372036854775808):bits .or .i64 (a:Int) (b:Int)=((a|||b:Nat):Int):=by
 have hx:a|||b<2^63:=Nat.or_lt_two_pow (by omega) (by omega)
 have h1:(BitVec.ofInt 64 (a:Int)).toNat=a:=by
  rw[BitVec.ofInt_natCast,BitVec.toNat_ofNat];exact Nat.mod_eq_of_lt (by omega)
 have h2:(BitVec.ofInt 64 (b:Int)).toNat=b:=by
  rw[BitVec.ofInt_natCast,BitVec.toNat_ofNat];exact Nat.mod_eq_of_lt (by omega)
 show IntKind.i64.wrap ((BitVec.ofInt 64 (a:Int)|||BitVec.ofInt 64 (b:Int)).toNat:Int)=_
 rw[BitVec.toNat_or,h1,h2,IntKind.wrap_i64]
 omega
theorem Xpe (a b:Nat) (ha:a<9223372036854775808) (hb:b<9223372036854775808):bits .and .i64 (a:Int) (b:Int)=((a&&&b:Nat):Int):=by
 have hx:a&&&b<2^63:=Nat.and_lt_two_pow _ (by omega)
 have h1:(BitVec.ofInt 64 (a:Int)).toNat=a:=by
  rw[BitVec.ofInt_natCast,BitVec.toNat_ofNat];exact Nat.mod_eq_of_lt (by omega)
 have h2:(BitVec.ofInt 64 (b:Int)).toNat=b:=by
  rw[BitVec.ofInt_natCast,BitVec.toNat_ofNat];exact Nat.mod_eq_of_lt (by omega)
 show IntKind.i64.wrap ((BitVec.ofInt 64 (a:Int)&&&BitVec.ofInt 64 (b:Int)).toNat:Int)=_
 rw[BitVec.toNat_and,h1,h2,IntKind.wrap_i64]
 omega
theorem Xl9 {n:Int} (h0:0≤n) (h1:n≤9223372036854775807):wrap64 n=n:=by unfold wrap64;omega
theorem Xsh (b fr g:Nat) (hb:b<256) (hfr:fr≤8) (hg:g<2^fr):bits .or .i64 (wrap64 ((b:Int)*2^fr)) (g:Int)=((b*2^fr+g:Nat):Int):=by
 have hp:2^fr≤2^8:=Nat.pow_le_pow_right (by omega) hfr
 have hm:b*2^fr≤256*256:=Nat.mul_le_mul (by omega) (by omega)
 have e:((b:Int)*2^fr)=((b*2^fr:Nat):Int):=by push_cast;rfl
 rw[e,Xl9 (by omega) (by omega),Xrd _ _ (by omega) (by omega)]
 congr 1
 have:=Nat.shiftLeft_add_eq_or_of_lt hg b
 rw[Nat.shiftLeft_eq] at this
 exact this.symm
theorem Ycv (b c:Nat) (hb:b<65536) (hc:c≤16):bits .and .i64 (b:Int) (2^c-1)=((b%2^c:Nat):Int):=by
 have hp:2^c≤2^16:=Nat.pow_le_pow_right (by omega) hc
 have h1:0<2^c:=Nat.pow_pos (by omega)
 have e:((2:Int)^c-1)=((2^c-1:Nat):Int):=by rw[Int.ofNat_sub h1];push_cast;rfl
 rw[e,Xpe _ _ (by omega) (by omega),Nat.and_two_pow_sub_one_eq_mod]
theorem Xph (b d:Nat) (hb:b<65536) (hc:d≤16):bits .and .i64 (b:Int) (wrap64 (wrap64 (2^d)-1))=((b%2^d:Nat):Int):=by
 have hp:2^d≤2^16:=Nat.pow_le_pow_right (by omega) hc
 have h1:0<2^d:=Nat.pow_pos (by omega)
 have e:((2:Int)^d)=((2^d:Nat):Int):=by push_cast;rfl
 rw[Xl9 (n:=2^d) (by rw[e];omega) (by rw[e];omega),Xl9 (by rw[e];omega) (by rw[e];omega)]
 exact Ycv b d hb hc
theorem BoxI.drew {w:World} {b n:Nat} (h:BoxI w b n):BoxI w.drew b n:=h
theorem BoxI.same {w w':World} {b n:Nat} (h:BoxI w b n) (e:w'.heap[b]?=w.heap[b]?):BoxI w' b n:=e.trans h
theorem BoxI.set {w:World} {b n m:Nat} (h:BoxI w b n):BoxI (w.setCell ⟨b,0,none⟩ (.int .i64 m)) b m:=one_setCell h
theorem BoxI.other {w:World} {b n:Nat} {a:Addr} {u:Value} (h:BoxI w b n) (ha:b≠a.block):BoxI (w.setCell a u) b n:=h.same (Below.heap_setCell _ _ _ _ ha)
theorem RG.setBits {B fr tt pf b c:Nat} {xs:List Nat} {w:World} (h:RG B fr tt pf b c xs w) (b':Nat):RG B fr tt pf b' c xs (w.setCell ⟨B+5,0,none⟩ (.int .i64 b')):=by
 obtain⟨h1,h2,h3,h4,h5,v,h6,h7⟩:=h
 exact⟨h1.set,h2.other (by simp),h3.other (by simp),h4.other (by simp),(Below.heap_setCell _ _ _ _ (by simp)).trans h5,v,(Below.heap_setCell _ _ _ _ (by simp)).trans h6,ownsRow_setCell_other h7 (Xd6 (b:=B+5) (t:=3) h7 h1 (by decide)) _⟩
theorem RG.setCount {B fr tt pf b c:Nat} {xs:List Nat} {w:World} (h:RG B fr tt pf b c xs w) (c':Nat):RG B fr tt pf b c' xs (w.setCell ⟨B+6,0,none⟩ (.int .i64 c')):=by
 obtain⟨h1,h2,h3,h4,h5,v,h6,h7⟩:=h
 exact⟨h1.other (by simp),h2.other (by simp),h3.set,h4.other (by simp),(Below.heap_setCell _ _ _ _ (by simp)).trans h5,v,(Below.heap_setCell _ _ _ _ (by simp)).trans h6,ownsRow_setCell_other h7 (Xd6 (b:=B+6) (t:=3) h7 h3 (by decide)) _⟩
theorem RG.drew {B fr tt pf b c:Nat} {xs:List Nat} {w:World} (h:RG B fr tt pf b c xs w):RG B fr tt pf b c xs w.drew:=⟨h.1,h.2,h.3,h.4,h.5,h.6⟩
theorem RG.below {B fr tt pf b c:Nat} {xs:List Nat} {w w':World} (h:RG B fr tt pf b c xs w) (hb:Below w.heap.size w w'):RG B fr tt pf b c xs w':=by
 obtain⟨h1,h2,h3,h4,h5,v,h6,h7⟩:=h
 refine⟨h1.same (hb.block _ (lt_of_block h1)),h2.same (hb.block _ (lt_of_block h2)),h3.same (hb.block _ (lt_of_block h3)),h4.same (hb.block _ (lt_of_block h4)),(hb.block _ (lt_of_block h5)).trans h5,v,(hb.block _ (lt_of_block h6)).trans h6,h7.1,?_⟩
 rcases h7.2 with h|⟨g,cap,cur,hv,hg,hh,r⟩
 ·exact .inl h
 ·exact .inr ⟨g,cap,cur,hv,hg,(hb.block _ (lt_of_block hh)).trans hh,r⟩
theorem RG.passed {B fr tt pf b c:Nat} {xs:List Nat} {z:Nat} {w w':World} {v:Value} (h:RG B fr tt pf b c xs w) (hown:w.ownsRow B 5 1 v xs.length (xs.map U))
    (hn:∃v',w'.heap[B+1]?=some (.cells #[v'] 62 (0,0))∧w'.ownsRow B 5 1 v' (xs.length+1) ((xs++[z]).map U)) (hf:Frame1 B (B+1) v w w'):RG B fr tt pf b c (xs++[z]) w':=by
 obtain⟨h1,h2,h3,h4,h5,_⟩:=h
 exact⟨h1.same (hf.other _ (lt_of_block h1) (by omega) (Xd6 (t:=3) hown h1 (by decide))),h2.same (hf.other _ (lt_of_block h2) (by omega) (Xd6 (t:=3) hown h2 (by decide))),h3.same (hf.other _ (lt_of_block h3) (by omega) (Xd6 (t:=3) hown h3 (by decide))),h4.same (hf.other _ (lt_of_block h4) (by omega) (Xd6 (t:=3) hown h4 (by decide))),
  (hf.other _ (lt_of_block h5) (by omega) (Xd6 hown h5 (by decide))).trans h5,by rw[List.length_append];exact hn⟩
set_option maxHeartbeats 400000 in
theorem Ykj (w0 w:World) (B fr tt bits count g:Nat) (f:Nat→Nat) (xs:List Nat) (h:RG B fr tt 217 bits count xs w) (hb:Below B w0 w) (hp:Xte w0 B 217 (2^tt) f)
    (hfr:fr≤8) (htt:1≤tt) (htt8:tt≤8) (hc:count<tt) (hbits:bits<2^count) (hg:g<2^fr) (hn:xs.length≤900000):
    Calls Tryz.prog 239 #[.int .i64 g,.pointer (some ⟨B+5,0,none⟩),.pointer (some ⟨B+2,0,none⟩),.pointer (some ⟨B+6,0,none⟩),.pointer (some ⟨B+3,0,none⟩),.pointer (some ⟨B+4,0,none⟩)] w fun e w'=>
     e=.returned (.tuple #[])∧Below B w0 w'∧KM w w'∧∃b c ys,Xb4 f tt 16 (bits*2^fr+g) (count+fr) xs=(b,c,ys)∧RG B fr tt 217 b c ys w':=by
 have c5:=cell_of_one h.bBits
 have c2:=cell_of_one h.bFrom
 have c6:=cell_of_one h.bCount
 have f5:=free_of_one h.bBits
 have f6:=free_of_one h.bCount
 have hp1:2^count≤2^8:=Nat.pow_le_pow_right (by omega) (by omega)
 have hp2:2^fr≤2^8:=Nat.pow_le_pow_right (by omega) (by omega)
 have bd0:=Xix hbits hg
 have b1:bits<256:=by omega
 have b2:g<256:=by omega
 obtain⟨x,hx⟩:∃x,x=bits*2^fr+g:=⟨_,rfl⟩
 obtain⟨y,hy⟩:∃y,y=count+fr:=⟨_,rfl⟩
 have hy16:y<16:=by omega
 have ey:(count:Int)+(fr:Int)=(y:Int):=by omega
 have e0:Go.bits .or .i64 (wrap64 ((bits:Int)*2^fr)) (g:Int)=(x:Int):=by rw[hx];exact Xsh bits fr g b1 hfr hg
 have r0:RG B fr tt 217 x y xs (((w.setCell ⟨B+5,0,none⟩ (.int .i64 (x:Int))).setCell ⟨B+6,0,none⟩ (.int .i64 (y:Int))).drew):=((h.setBits _).setCount _).drew
 have q0:Below B w0 (((w.setCell ⟨B+5,0,none⟩ (.int .i64 (x:Int))).setCell ⟨B+6,0,none⟩ (.int .i64 (y:Int))).drew):=((hb.setCell (by simp) _).setCell (by simp) _).drew
 have bd:x<2^y:=by rw[hx,hy];exact bd0
 rw[←hx,←hy]
 have k0:KM w (((w.setCell ⟨B+5,0,none⟩ (.int .i64 (x:Int))).setCell ⟨B+6,0,none⟩ (.int .i64 (y:Int))).drew):=((KM.setCell h.bBits 0 _).trans (KM.setCell (h.setBits x).bCount 0 _)).drew
 have K0:=Hd k0
 clear k0
 have HP:=Hd hp;have R0:=Hd r0;have Q0:=Hd q0;have BD:=Hd bd
 clear hp h hb hp1 hp2 r0 q0 bd hbits hg hx hy bd0
 go_enter Tryz.func239,Tryz.ntmps239
 go_wp2_with fail
 go_region
 all_goals go_wp2_with fail
 go_loopg [] 16 (fun k wr=>∃b c ys,RG B fr tt 217 b c ys wr∧Below B w0 wr∧KM w wr∧b<2^c∧c≤k∧c<16∧ys.length+c≤900000+16∧Xb4 f tt k b c ys=Xb4 f tt 16 x y xs)
 case atStart=>exact⟨x,y,xs,R0.out,Q0.out,K0.out,BD.out,by omega,hy16,by omega,rfl⟩
 case round=>
  obtain⟨b,c,ys,hr,hq,hkm,hbc,hck,hc16,hlen,hdr⟩:=hrel
  obtain⟨v,hv,hown⟩:=hr.txt
  have k5:=cell_of_one hr.bBits
  have k3:=cell_of_one hr.bTo
  have k6:=cell_of_one hr.bCount
  have k4:=cell_of_one hr.bPass
  have l5:=free_of_one hr.bBits
  have l6:=free_of_one hr.bCount
  clear e0 c5 c2 c6 f5 f6
  have HKM:=Hd hkm
  clear hkm
  by_cases hlt:c<tt
  ·have HR:=Hd hr;have HQ:=Hd hq;have HD:=Hd hdr
   clear hr hq hdr hv hown hbc
   go_wp2_with fail
   go_end0
   refine⟨rfl,HQ.out,HKM.out,b,c,ys,?_,HR.out⟩
   rw[←HD.out]
   cases gk<;>simp[Xb4,hlt]
  ·obtain⟨d,hd⟩:∃d,d=c-tt:=⟨_,rfl⟩
   obtain⟨q,hq'⟩:∃q,q=b/2^d:=⟨_,rfl⟩
   have ed:(c:Int)-(tt:Int)=(d:Int):=by omega
   have eq:(b:Int)/2^d=(q:Int):=by rw[hq'];push_cast;rfl
   have hd16:d<16:=by omega
   obtain⟨r,hr'⟩:∃r,r=b%2^d:=⟨_,rfl⟩
   have hb16:b<65536:=Nat.lt_of_lt_of_le hbc (Nat.pow_le_pow_right (n:=2) (by omega) (show c≤16 by omega))
   have em:Go.bits .and .i64 (b:Int) (wrap64 (wrap64 (2^d)-1))=(r:Int):=by rw[hr'];exact Xph b d hb16 (by omega)
   have EM:=Hd em;have W:=Hd hr'
   clear em hr'
   have hqlt:q<2^tt:=by rw[hq'];apply Nat.div_lt_of_lt_mul;rw[←Nat.pow_add];have:d+tt=c:=by omega
                        rw[this];exact hbc
   have r1:=hr.setCount d
   have q1:Below B w0 (wr.setCell ⟨B+6,0,none⟩ (.int .i64 (d:Int))):=hq.setCell (by simp) _
   have hylen:ys.length≤1000000:=by omega
   have o1:=(ownsRow_setCell_other (a:=⟨B+6,0,none⟩) hown (Xd6 (b:=B+6) (t:=3) hown hr.bCount (by decide)) (.int .i64 (d:Int))).drew
   have P1:=Hd (HP.out (wr.setCell ⟨B+6,0,none⟩ (.int .i64 (d:Int))).drew v ys q q1.drew ((Below.heap_setCell _ _ _ _ (by simp)).trans hv) o1 hylen hqlt)
   have O1:=Hd o1
   have K1:=Hd (KM.setCell hr.bCount 0 (.int .i64 (d:Int)))
   have V1:Hid ((wr.setCell ⟨B+6,0,none⟩ (.int .i64 (d:Int))).drew.heap[B+1]?=some (.cells #[v] 62 (0,0))):=(Below.heap_setCell _ _ _ _ (by simp)).trans hv
   have R1:=Hd r1;have HD:=Hd hdr;have Q1:=Hd q1;have X:=Hd hq';have Y:=Hd hd;have Z:=Hd hbc
   clear hr hq hdr hv hown hbc r1 q1 hq' hd hqlt o1
   go_wp2_with fail
   go_region_held3 (fun w'=>w'.cell? ⟨B+4,0,none⟩=some (.func (.func 217) #[] #[.pointer (some ⟨B+1,0,none⟩)])∧w'.cell? ⟨B+5,0,none⟩=some (.int .i64 (b:Int))∧w'.cell? ⟨B+6,0,none⟩=some (.int .i64 (d:Int)))
    (first|exact⟨cell_of_one R1.out.drew.bPass,cell_of_one R1.out.drew.bBits,cell_of_one R1.out.drew.bCount⟩|exact⟨cell_of_one HR3.out.bPass,cell_of_one HR3.out.bBits,cell_of_one HR3.out.bCount⟩)
    (first|(go_at_call 217;refine(P1.out).mono ?_;rintro e w2 ⟨rfl,hn,hf⟩;have HR3:=Hd (RG.passed R1.out.drew O1.out hn hf);clear hn))
   all_goals (have k5:=cell_of_one HR3.out.bBits;have k6:=cell_of_one HR3.out.bCount;have l5:=free_of_one HR3.out.bBits;have em:=EM.out)
   all_goals go_wp2_with fail
   all_goals go_region
   all_goals go_wp2_with fail
   all_goals clear em
   all_goals go_roundg (gk-1)
   case measure=>omega
   case rel=>
    refine⟨r,d,ys++[f q],(HR3.out.setBits r).drew,(((Q1.out.drew.trans hf.below).setCell (by simp) _).drew),?_,?_,by omega,hd16,by simp;omega,?_⟩
    ·exact(((HKM.out.trans K1.out).drew.trans (hf.km V1.out O1.out)).trans (KM.setCell HR3.out.bBits 0 _)).drew
    ·rw[W.out];exact Nat.mod_lt _ (Nat.pow_pos (by omega))
    ·rw[←HD.out]
     obtain⟨k',rfl⟩:∃k',gk=k'+1:=⟨gk-1,by omega⟩
     rw[Xen _ _ _ _ _ _ hlt,←Y.out,←W.out,←X.out]
     rfl
theorem Xio:(Tryz.prog.info? 5).map (fun i=>(i.zero,i.size,i.bytes))=some (some (.int .u8 0),1,1):=by kernel_rfl
theorem Ykg (w:World) (Bt g base al:Nat) (v:Value) (xs:List Nat)
    (hT:w.heap[Bt]?=some (.cells #[v] 62 (0,0))) (hown:w.ownsRow base 5 1 v xs.length (xs.map U)) (hbase:base≤w.heap.size) (hBt:base≤Bt)
    (hn:xs.length≤1000000) (hg:g<64) (ha:w.cell? ⟨3,g,none⟩=some (U al)):
    Calls Tryz.prog 217 #[.int .i64 g,.pointer (some ⟨Bt,0,none⟩)] w fun e w'=>e=.returned (.tuple #[])∧
     (∃v',w'.heap[Bt]?=some (.cells #[v'] 62 (0,0))∧w'.ownsRow base 5 1 v' (xs.length+1) ((xs++[al]).map U))∧Frame1 base Bt v w w':=by
 obtain⟨i0,hi0,hz0,hz1,hz2⟩:=info_parts Xio
 have hc:=cell_of_one hT
 have hf:=free_of_one hT
 have lt:=lt_of_block hT
 have g0:(0:Int)≤(g:Int):=Int.natCast_nonneg _
 have g1:(g:Int)<64:=by omega
 have hne:v.ownBlock≠some Bt:=Xd6 hown hT (by decide)
 have hTA:(w.drew.alloc (.cells #[U al] 5)).heap[Bt]?=some (.cells #[v] 62 (0,0)):=Xaf hT
 have HT:=Hd hT
 have HTA:=Hd hTA
 have HNE:=Hd hne
 clear hT hTA hne
 unfold U at ha HTA
 go_enter Tryz.func217,Tryz.ntmps217
 go_wp2_with fail
 go_region_law
  ((refine step_append_lies _ (by rfl) _ _ _ (by rfl) base 5 i0 _ 1 1 Tryz.underlying62 hi0 hz0 hz1 hz2 rfl (by omega) v xs.length (xs.map U) (by rfl) ((hown.drew).alloc _)
      ⟨w.heap.size,0,none⟩ 1 1 [.int .u8 al] (by rfl) (by rfl) (World.news_of_block (cs:=#[.int .u8 al]) (t:=5) (fr:=(0,0)) (heap_alloc_new w _)) (by simp[Value.oneCell'])
      (by omega) (by unfold maxLen;omega) (by omega) (by simp;omega) (w.heap.size+1) (by simp) ?_;intro gg cap w1 hown1 hgrow hat hlt;have hc1:=Xda hgrow HTA.out HNE.out;have hc2:=cell_of_one hc1;have hc3:=free_of_one hc1;have HC1:=Hd hc1;clear hc1))
 all_goals go_end0
 all_goals (refine⟨rfl,?_⟩;rw[List.map_append];exact Xkt hown1 hgrow (((Below.refl _ _).alloc (Nat.le_refl _) _).drew) HC1.out (by decide) hBt hbase hown)
theorem Xjn (w:World) (a b pf Bt B:Nat) (hB:w.heap.size=B+2):
    Calls Tryz.prog 216 #[.int .i64 a,.int .i64 b,.func (.func pf) #[] #[.pointer (some ⟨Bt,0,none⟩)]] w fun e w'=>
     e=.returned (.tuple #[.func (.func 239) #[] #[.pointer (some ⟨B+5,0,none⟩),.pointer (some ⟨B+2,0,none⟩),.pointer (some ⟨B+6,0,none⟩),.pointer (some ⟨B+3,0,none⟩),.pointer (some ⟨B+4,0,none⟩)],
      .func (.func 240) #[] #[.pointer (some ⟨B+5,0,none⟩),.pointer (some ⟨B+6,0,none⟩)]])∧
     w'=((((w.alloc (.cells #[.int .i64 a] 3)).alloc (.cells #[.int .i64 b] 3)).alloc (.cells #[.func (.func pf) #[] #[.pointer (some ⟨Bt,0,none⟩)]] 81)).alloc (.cells #[.int .i64 0] 3)).alloc (.cells #[.int .i64 0] 3):=by
 have HB:=Hd hB
 clear hB
 go_enter Tryz.func216,Tryz.ntmps216
 go_wp2_with fail
 go_ret2
 refine⟨?_,rfl⟩
 simp[HB.out]
theorem Xsp (w:World) (B fr tt pf b c:Nat) (xs:List Nat) (h:RG B fr tt pf b c xs w):
    Calls Tryz.prog 240 #[.pointer (some ⟨B+5,0,none⟩),.pointer (some ⟨B+6,0,none⟩)] w fun e w'=>e=.returned (.tuple #[.int .i64 b,.int .i64 c])∧∃n,w'=w.drewN n:=by
 have k5:=cell_of_one h.bBits
 have k6:=cell_of_one h.bCount
 clear h
 go_enter Tryz.func240,Tryz.ntmps240
 go_wp2_with fail
 go_quiet (fail)
 go_wp2_with fail
 go_ret2
 exact⟨rfl,_,rfl⟩
def Yai (n:Int):Int:=if n<0∨131072<n then 0 else(n+2)/3*4
theorem Xnv {n:Int} (h:n<0∨131072<n):Yai n=0:=if_pos h
theorem Yah {n:Int} (h:¬(n<0∨131072<n)):Yai n=(n+2)/3*4:=if_neg h
theorem Xr1 (w:World) (n:Int) (h0:-9223372036854775808≤n) (h1:n≤9223372036854775807):
    Calls Tryz.prog 232 #[.int .i64 n] w fun e w'=>e=.returned (.int .i64 (Yai n))∧w=w':=by
 by_cases ha:n<0
 ·go_enter Tryz.func232,Tryz.ntmps232
  go_wp2
  all_goals go_ret
  all_goals exact⟨by rw[Xnv (.inl ha)];rfl,rfl⟩
 ·by_cases hb:131072<n
  ·go_enter Tryz.func232,Tryz.ntmps232
   go_wp2
   all_goals go_ret
   all_goals exact⟨by rw[Xnv (.inr hb)];rfl,rfl⟩
  ·go_enter Tryz.func232,Tryz.ntmps232
   go_wp2
   all_goals go_ret
   all_goals exact⟨by rw[Yah (by omega)];rfl,rfl⟩
theorem Xg2 {w:World} {base e size n:Nat} {v:Value} {xs:List Value} (h:w.ownsRow base e size v n xs):∃a cap,v=.slice a n cap:=by
 rcases h.2 with⟨rfl,rfl⟩|⟨g,cap,cur,rfl,_⟩
 ·exact⟨none,0,rfl⟩
 ·exact⟨some ⟨g,0,none⟩,cap,rfl⟩
theorem Xme (ys:List Nat):strOfNums (ys.map fun n:Nat=>(n:Int))=Xaq ys:=by
 unfold strOfNums Xaq
 simp[Function.comp_def]
theorem Xl2 {P:Program} (w:World) (src e dst:TypeId) (hs:P.underlying src=some (.slice e)) (he:P.underlying e=some (.int .u8)) (hd:P.underlying dst=some .string) (b off cap:Nat) (ys:List Nat)
    (hcell:∀i (h:i<ys.length),w.cell? ⟨b,off+i,none⟩=some (U ys[i])):(convert src dst (.slice (some ⟨b,off,none⟩) ys.length cap)).run P w=.ok (.string (Xaq ys)) w:=by
 rw[←Xme]
 refine run_convert_bytes_arg w src e hs he b off ys.length cap _ (by simp) ?_ dst hd
 intro i hi
 rw[hcell i hi]
 simp[U,List.getD,List.getElem?_eq_getElem hi]
theorem Xmq {P:Program} {w:World} {base e:Nat} {v:Value} {n:Nat} {ys:List Nat} (src dst:TypeId) (hs:P.underlying src=some (.slice e)) (he:P.underlying e=some (.int .u8)) (hd:P.underlying dst=some .string)
    (h:w.ownsRow base e 1 v n (ys.map U)):(convert src dst v).run P w=.ok (.string (Xaq ys)) w:=by
 have hl:ys.length=n:=by simpa using h.1
 subst hl
 rcases h.2 with⟨rfl,h0⟩|⟨g,cap,cur,rfl,_⟩
 ·obtain rfl:ys=[]:=List.eq_nil_of_length_eq_zero h0
  exact run_convert_bytes_nil w src e hs he 0 0 dst hd
 ·refine Xl2 w src e dst hs he hd g 0 cap ys ?_
  intro i hi
  rw[Nat.zero_add,h.cellAt i (by omega),List.getElem?_map,List.getElem?_eq_getElem hi]
  rfl
theorem Xb8 {P:Program} (w:World) {ops:Array Oper} {rest:List Oper} {o:Oper} {a:Act} {Q:Exit→Act→World→Prop}
    (hg:o.guard=none) (l c:Operand) (t:TypeId) (hop:o.op=Op.makeSlice t l c)
    (e:TypeId) (i:TypeInfo) (z:Value) (size:Nat) (h1:P.underlying t=some (.slice e)) (h2:P.info? e=some i) (h3:i.zero=some z) (h4:i.size=size)
    (kl kc:IntKind) (L C:Int) (m n:Nat) (hl:a.eval l=.int kl L) (hc:a.eval c=.int kc C) (hL:L=(m:Int)) (hC:C=(n:Int)) (hmn:m≤n) (b2:i.bytes*n≤281474976710656) (b3:n≤maxLen)
    (hK:∀cs,cs.size=n*size→wpList P ops Q rest (a.put o.dst (.slice (some ⟨w.heap.size,0,none⟩) m n)) (w.alloc (.cells cs e))):
    wpList P ops Q (o::rest) a w:=by
 refine wpList_plain hg fun K hK'=>?_
 have hr:=run_make (P:=P) w t e i z h1 h2 h3 kl kc m n (by omega) (by omega) (by have h:((i.bytes*n:Nat):Int)≤281474976710656:=by omega
                                                                                 rwa [Int.natCast_mul] at h) (by unfold maxLen at b3;omega)
 subst hL
 subst hC
 simp only[Int.toNat_natCast] at hr
 unfold Oper.wp
 simp[execOp,hop,hl,hc,hr,Result.andThen]
 exact hK' _ _ (hK _ (by rw[←h4];exact size_madeCells _ _))
structure Tab (w:World):Prop where
 size:3<w.heap.size
 cell:∀g,g<64→w.cell? ⟨3,g,none⟩=some (U (al g))
theorem Tab.below {B:Nat} {w w':World} (h:Tab w) (hb:Below B w w') (hB:3<B):Tab w':=⟨Nat.lt_of_lt_of_le h.size hb.size,fun g hg=>(hb.cell (by exact hB)).trans (h.cell g hg)⟩
theorem Ya0 (w0:World) (B:Nat) (ht:Tab w0) (hB:3<B) (hs:B≤w0.heap.size):Xte w0 B 217 (2^6) al:=by
 intro w v xs g hb hT hown hn hg
 exact Ykg w (B+1) g B (al g) v xs hT hown (Nat.le_trans hs hb.size) (by omega) hn (by omega) ((ht.below hb hB).cell g (by omega))
theorem Xr9 (w:World) (cs:Array Value) (n fr tt pf:Nat) (hn:n≤maxLen) (hcs:cs.size=n*1):
    RG w.heap.size fr tt pf 0 0 [] ((((((((w.alloc (.cells cs 5)).alloc (.cells #[.slice (some ⟨w.heap.size,0,none⟩) 0 n] 62)).alloc (.cells #[.int .i64 fr] 3)).alloc (.cells #[.int .i64 tt] 3)).alloc (.cells #[.func (.func pf) #[] #[.pointer (some ⟨w.heap.size+1,0,none⟩)]] 81)).alloc (.cells #[.int .i64 0] 3)).alloc (.cells #[.int .i64 0] 3))):=by
 have sz:∀(u:World) (o:Obj),(u.alloc o).heap.size=u.heap.size+1:=fun u o=>by simp
 have a1:=World.ownsRow_made (base:=w.heap.size) (e:=5) (size:=1) w cs n (Nat.le_refl _) hn hcs
 have new:∀(u:World) (o:Obj) (k:Nat),u.heap.size=k→(u.alloc o).heap[k]?=some o:=fun u o k h=>by rw[←h];exact heap_alloc_new u o
 refine⟨Xaf (new _ _ _ (by simp)),?_,new _ _ _ (by simp),?_,?_,.slice (some ⟨w.heap.size,0,none⟩) 0 n,?_,((((((a1.alloc _).alloc _).alloc _).alloc _).alloc _).alloc _)⟩
 ·exact Xaf (Xaf (Xaf (Xaf (new _ _ _ (by simp)))))
 ·exact Xaf (Xaf (Xaf (new _ _ _ (by simp))))
 ·exact Xaf (Xaf (new _ _ _ (by simp)))
 ·exact Xaf (Xaf (Xaf (Xaf (Xaf (new _ _ _ (by simp))))))
theorem Xkr (w:World) (o1 o2 o3 o4 o5 o6 o7:Obj):Below w.heap.size w (((((((w.alloc o1).alloc o2).alloc o3).alloc o4).alloc o5).alloc o6).alloc o7):=by
 refine Below.alloc (Below.alloc (Below.alloc (Below.alloc (Below.alloc (Below.alloc (Below.alloc (Below.refl _ _) ?_ _) ?_ _) ?_ _) ?_ _) ?_ _) ?_ _) ?_ _<;>simp<;>omega
end Go.Proofs.YtohmdledkhgdaaaGreatDoor
/- Plain: how long a character is, valid texts, printable texts. -/
namespace Go.Proofs.YtohmdledkhgdaaaGreatDoor
set_option linter.unusedVariables false
def Xf2 (c:Nat):Nat:=if c≤127 then 1 else if c<194 then 0 else if c≤223 then 2 else if c≤239 then 3 else if c≤244 then 4 else 0
def Xgl (f i c:Nat):Bool:=
 decide ((if i=1∧f=224 then 160 else if i=1∧f=240 then 144 else 128)≤c)&&decide (c≤(if i=1∧f=237 then 159 else if i=1∧f=244 then 143 else 191))
theorem Xjc (c:Nat):Xf2 c≤4:=by unfold Xf2;(repeat' split)<;>omega
theorem Xz9 {f i c:Nat} (h:Xgl f i c=true):128≤c∧c≤191:=by
 unfold Xgl at h;simp at h;obtain⟨h1,h2⟩:=h
 constructor
 ·split at h1<;>(try split at h1)<;>omega
 ·split at h2<;>(try split at h2)<;>omega
def Xb6 (l:List Nat):Bool:=
 decide (Xf2 (l.getD 0 0)≠0)&&decide (Xf2 (l.getD 0 0)≤l.length)&&(List.range 3).all (fun i=>decide (Xf2 (l.getD 0 0)≤i+1)||Xgl (l.getD 0 0) (i+1) (l.getD (i+1) 0))
def rn (l:List Nat):Nat:=if Xb6 l=true then Xf2 (l.getD 0 0) else 0
theorem Xb9 (l:List Nat):Xb6 l=true↔Xf2 (l.getD 0 0)≠0∧Xf2 (l.getD 0 0)≤l.length∧∀i,1≤i→i<Xf2 (l.getD 0 0)→Xgl (l.getD 0 0) i (l.getD i 0)=true:=by
 have h4:=Xjc (l.getD 0 0)
 unfold Xb6
 simp only[Bool.and_eq_true,decide_eq_true_eq,List.all_eq_true,List.mem_range,Bool.or_eq_true]
 constructor
 ·rintro⟨⟨a,b⟩,c⟩
  refine⟨a,b,fun i h1 h2=>?_⟩
  have:=c (i-1) (by omega)
  rw[show i-1+1=i by omega] at this
  rcases this with h|h
  ·omega
  ·exact h
 ·rintro⟨a,b,c⟩
  refine⟨⟨a,b⟩,fun i hi=>?_⟩
  by_cases h:Xf2 (l.getD 0 0)≤i+1
  ·exact .inl h
  ·exact .inr (c (i+1) (by omega) (by omega))
theorem Xiq (l:List Nat) (h:¬(Xf2 (l.getD 0 0)≠0∧Xf2 (l.getD 0 0)≤l.length∧∀i,1≤i→i<Xf2 (l.getD 0 0)→Xgl (l.getD 0 0) i (l.getD i 0)=true)):Xb6 l=false:=by
 rw[←Xb9] at h;simpa using h
theorem Xpy (l:List Nat):rn l≤l.length∧rn l≤4:=by
 unfold rn;split
 ·rename_i h;have:=(Xb9 l).1 h;exact⟨this.2.1,Xjc _⟩
 ·omega
theorem Xjl {l:List Nat} (h:Xb6 l=false):rn l=0:=by unfold rn;rw[h];rfl
theorem Xfc {l:List Nat} (h:Xb6 l=true):rn l=Xf2 (l.getD 0 0)∧0<rn l:=by
 have:=(Xb9 l).1 h
 unfold rn;rw[if_pos h];omega
theorem rn_ne {l:List Nat}:rn l≠0↔Xb6 l=true:=by
 constructor
 ·intro h;cases hw:Xb6 l
  ·exact absurd (Xjl hw) h
  ·rfl
 ·intro h;have:=Xfc h;omega
def Ygp:Nat→List Nat→Bool
 |0,l=>l.isEmpty
 |k+1,l=>if l.isEmpty then true else(decide (rn l≠0)&&Ygp k (l.drop (rn l)))
def vld (l:List Nat):Bool:=Ygp l.length l
theorem Yd2:∀(n:Nat) (l:List Nat) (k:Nat),l.length≤n→l.length≤k→Ygp k l=Ygp l.length l:=by
 intro n
 induction n with
 |zero=>
  intro l k hl hk
  have:l=[]:=List.length_eq_zero_iff.1 (by omega)
  subst this
  cases k<;>rfl
 |succ n ih=>
  intro l k hl hk
  cases l with
  |nil=>cases k<;>rfl
  |cons a l=>
   cases k with
   |zero=>simp at hk
   |succ k=>
    rw[List.length_cons]
    simp only[Ygp]
    by_cases h0:rn (a::l)=0
    ·simp[h0]
    ·have hlen:((a::l).drop (rn (a::l))).length≤l.length:=by simp;omega
     have hl':l.length≤n:=by simpa using hl
     have hk':l.length≤k:=by simpa using hk
     rw[ih _ k (by omega) (by omega),ih _ l.length (by omega) (by omega)]
theorem Xmb {l:List Nat} (h:l≠[]):vld l=(decide (rn l≠0)&&vld (l.drop (rn l))):=by
 cases l with
 |nil=>exact absurd rfl h
 |cons a l=>
  unfold vld
  rw[List.length_cons]
  simp only[Ygp]
  by_cases h0:rn (a::l)=0
  ·simp[h0]
  ·rw[Yd2 l.length _ l.length (by simp;omega) (by simp;omega)]
   simp
def cpt (l:List Nat):Nat:=
 ((l.take (rn l)).drop 1).foldl (fun r x=>r*64+x%64) (if rn l≤1 then l.getD 0 0 else l.getD 0 0%2^(7-rn l))
def Xs6 (r:Nat):Bool:=decide (r<32)||(decide (127≤r)&&decide (r≤159))||decide (r=8232)||decide (r=8233)
def rsN:Nat→Nat→List Nat→List (Nat×Nat)
 |0,_,_=>[]
 |k+1,at',l=>if rn l=0 then[] else(at',cpt l)::rsN k (at'+rn l) (l.drop (rn l))
def rns (l:List Nat):List (Nat×Nat):=rsN l.length 0 l
def gd (t:Bool) (r:Nat):Bool:=!Xs6 r||(t&&decide (r=9))
def Xhg (t:Bool) (l:List Nat):Bool:=vld l&&(rns l).all fun x=>gd t x.2
theorem Ydc:rn []=0:=rfl
theorem Yda:∀(n:Nat) (l:List Nat) (k a:Nat),l.length≤n→l.length≤k→rsN k a l=rsN l.length a l:=by
 intro n
 induction n with
 |zero=>
  intro l k a hl hk
  have:l=[]:=List.length_eq_zero_iff.1 (by omega)
  subst this
  cases k<;>rfl
 |succ n ih=>
  intro l k a hl hk
  cases l with
  |nil=>cases k<;>rfl
  |cons x l=>
   cases k with
   |zero=>simp at hk
   |succ k=>
    rw[List.length_cons]
    simp only[rsN]
    by_cases h0:rn (x::l)=0
    ·simp[h0]
    ·have hlen:((x::l).drop (rn (x::l))).length≤l.length:=by simp;omega
     have hl':l.length≤n:=by simpa using hl
     have hk':l.length≤k:=by simpa using hk
     rw[ih _ k _ (by omega) (by omega),ih _ l.length _ (by omega) (by omega)]
theorem Xmn (k a:Nat) (l:List Nat) (h:rn l≠0) (hk:l.length≤k):rsN k a l=(a,cpt l)::rsN (l.drop (rn l)).length (a+rn l) (l.drop (rn l)):=by
 have hl:=(Xpy l).1
 rw[Yda l.length l k a (Nat.le_refl _) hk]
 cases l with
 |nil=>exact absurd Ydc h
 |cons x l=>
  rw[List.length_cons]
  simp only[rsN]
  rw[if_neg h,Yda l.length _ l.length _ (by simp;omega) (by simp;omega)]
theorem Xmm (k a:Nat) (l:List Nat) (h:rn l=0):rsN k a l=[]:=by
 cases k with
 |zero=>rfl
 |succ k=>simp only[rsN];rw[if_pos h]
theorem Xwg:∀(k a:Nat) (l:List Nat),(rsN k a l).length≤k
 |0,_,_=>Nat.le_refl _
 |k+1,a,l=>by
  simp only[rsN]
  split
  ·simp
  ·have:=Xwg k (a+rn l) (l.drop (rn l));simp;omega
def dbl:List Nat→Bool
 |a::b::t=>(decide (a=32)&&decide (b=32))||dbl (b::t)
 |_=>false
def sqz (l:List Nat):Bool:=!decide (l.head?=some 32)&&!decide (l.getLast?=some 32)&&!dbl l
def fe (a b:Nat):Nat:=if a≠0 then a else b
def eIf (p:Bool) (e:Nat):Nat:=if p=true then e else 0
def Xfa (l:List Nat) (most:Nat):Nat:=fe (eIf (decide (most<l.length)) 5) (fe (eIf (!Xhg false l) 6) (eIf (!sqz l) 3))
def spl (c:Nat):List Nat→List (List Nat)
 |[]=>[[]]
 |x::t=>if x=c then[]::spl c t else match spl c t with
  |[]=>[[x]]
  |h::r=>(x::h)::r
theorem Xje (c:Nat) (l:List Nat):spl c l≠[]:=by
 cases l with
 |nil=>simp[spl]
 |cons x t=>simp only[spl];split;· simp
            split<;>simp
def low (c:Nat):Bool:=decide (97≤c)&&decide (c≤122)
def dig (c:Nat):Bool:=decide (48≤c)&&decide (c≤57)
def nmC (c:Nat):Bool:=low c||dig c||decide (c=45)||decide (c=43)||decide (c=95)
def Xei (l:List Nat):Bool:=!l.isEmpty&&decide (l.length≤20)&&low (l.getD 0 0)&&l.all nmC
def Xbg (l:List Nat):Nat:=if 80<l.length then 5 else if(spl 46 l).any (fun p=>!Xei p)=true then 12 else if 10<(spl 46 l).length then 9 else 0
def Xcz (f:List Nat→Nat) (d:Nat):List (List Nat)→List (List Nat)→Nat
 |_,[]=>0
 |pre,x::r=>if f x≠0 then f x else if pre.contains x=true then d else Xcz f d (pre++[x]) r
def Xcc (f:List Nat→Nat) (l:List (List Nat)):Nat:=if 20<l.length then 9 else Xcz f 7 [] l
def Xbp (l:List (List Nat)):Nat:=if l=[] then 4 else Xcc Xbg l
def zero32:List Nat:=List.replicate 32 0
def Xer (l:List (List Nat)):Nat:=Xcc (fun x=>if x=zero32 then 1 else 0) l
def Xkk (l:List Nat):Nat:=fe (eIf (decide (20<l.length)) 5) (eIf (l.any fun c=>!low c&&!dig c&&!decide (c=45)) 6)
def Xe2 (l:List Nat):List Nat:=l.takeWhile (fun c=>!decide (c=10))
def Xnc:Nat→List Nat→Nat
 |0,_=>0
 |k+1,l=>if l=[] then 0 else if(Xe2 l).length=l.length then 4 else if 998<(Xe2 l).length then 5 else if Xhg true (Xe2 l)=false then 6 else Xnc k (l.drop ((Xe2 l).length+1))
def Xfk (l:List Nat):Nat:=Xnc l.length l
def hxl (k:Nat):Nat:=if k<10 then 48+k else 87+k
def Xbz (l:List Nat):List Nat:=l.flatMap fun b=>[hxl (b/16),hxl (b%16)]
def hvl (c:Nat):Option Nat:=if 48≤c∧c≤57 then some (c-48) else if 97≤c∧c≤102 then some (c-87) else none
def Xik:List Nat→Option (List Nat)
 |[]=>some []
 |[_]=>none
 |a::b::t=>match hvl a,hvl b,Xik t with
  |some x,some y,some r=>some ((16*x+y)::r)
  |_,_,_=>none
def sHash:List Nat:=[64,104,97,115,104,62]
def Xc2 (id:List Nat):List Nat:=60::Xbz id++sHash
def Xe4 (x:List Nat):Option (List Nat):=if x.length=71∧x.getD 0 0=60∧x.drop 65=sHash then Xik ((x.drop 1).take 64) else none
def Xeo (x:List Nat):Option (List Nat):=if x.length=32 then Xik x else none
def Xdf (a b:Nat):Nat:=(a+b)%4294967296
def Xua (a:Nat):Nat:=4294967295-a
def Xnw (a n:Nat):Nat:=(a*2^n)%4294967296
def rot (x n:Nat):Nat:=Xnw x (32-n)|||x/2^n
structure W8 where
 a:Nat
 b:Nat
 c:Nat
 d:Nat
 e:Nat
 f:Nat
 g:Nat
 i:Nat
def shK:List Nat:=[1116352408,1899447441,3049323471,3921009573,961987163,1508970993,2453635748,2870763221,3624381080,310598401,607225278,1426881987,1925078388,2162078206,2614888103,3248222580,3835390401,4022224774,264347078,604807628,770255983,1249150122,1555081692,1996064986,2554220882,2821834349,2952996808,3210313671,3336571891,3584528711,113926993,338241895,666307205,773529912,1294757372,1396182291,1695183700,1986661051,2177026350,2456956037,2730485921,2820302411,3259730800,3345764771,3516065817,3600352804,4094571909,275423344,430227734,506948616,659060556,883997877,958139571,1322822218,1537002063,1747873779,1955562222,2024104815,2227730452,2361852424,2428436474,2756734187,3204031479,3329325298]
def sh0:W8:=⟨1779033703,3144134277,1013904242,2773480762,1359893119,2600822924,528734635,1541459225⟩
def Yej (v:W8) (k w:Nat):Nat:=Xdf (Xdf (Xdf (Xdf v.i (rot v.e 6^^^rot v.e 11^^^rot v.e 25)) ((v.e&&&v.f)^^^(Xua v.e&&&v.g))) k) w
def Ygq (v:W8):Nat:=Xdf (rot v.a 2^^^rot v.a 13^^^rot v.a 22) ((v.a&&&v.b)^^^(v.a&&&v.c)^^^(v.b&&&v.c))
def rnd (v:W8) (k w:Nat):W8:=⟨Xdf (Yej v k w) (Ygq v),v.a,v.b,v.c,Xdf v.d (Yej v k w),v.e,v.f,v.g⟩
def Xhm (x y:W8):W8:=⟨Xdf x.a y.a,Xdf x.b y.b,Xdf x.c y.c,Xdf x.d y.d,Xdf x.e y.e,Xdf x.f y.f,Xdf x.g y.g,Xdf x.i y.i⟩
def Yj6 (w:List Nat) (t:Nat):Nat:=
 Xdf (w.getD (t%16) 0) (Xdf (Xdf (rot (w.getD ((t-15)%16) 0) 7^^^rot (w.getD ((t-15)%16) 0) 18^^^w.getD ((t-15)%16) 0/2^3) (rot (w.getD ((t-2)%16) 0) 17^^^rot (w.getD ((t-2)%16) 0) 19^^^w.getD ((t-2)%16) 0/2^10)) (w.getD ((t-7)%16) 0))
def Xma (w:List Nat) (t:Nat):List Nat:=if t<16 then w else w.set (t%16) (Yj6 w t)
def Xwx (st:W8×List Nat) (t:Nat):W8×List Nat:=(rnd st.1 (shK.getD t 0) ((Xma st.2 t).getD (t%16) 0),Xma st.2 t)
def Xp3 (h:W8) (w:List Nat) (n:Nat):W8×List Nat:=(List.range n).foldl Xwx (h,w)
theorem Xob (h:W8) (w:List Nat) (n:Nat):Xp3 h w (n+1)=Xwx (Xp3 h w n) n:=by simp[Xp3,List.range_succ]
def Xkz (h:W8) (w:List Nat):W8:=Xhm h (Xp3 h w 64).1
def Xsq (b:List Nat) (w:List Nat) (i:Nat):List Nat:=w.set (i/4) (Xnw (w.getD (i/4) 0) 8|||b.getD i 0)
def Xzt (b:List Nat) (n:Nat):List Nat:=(List.range n).foldl (Xsq b) (List.replicate 16 0)
theorem Xol (b:List Nat) (n:Nat):Xzt b (n+1)=Xsq b (Xzt b n) n:=by simp[Xzt,List.range_succ]
def ldF (b:List Nat):List Nat:=Xzt b 64
structure Hs where
 st:W8
 blk:List Nat
 len:Nat
def Xcu (h:Hs) (b:List Nat):Hs:=
 let p:=h.len%64
 let n:=min (64-p) b.length
 let blk:=h.blk.take p++b.take n++h.blk.drop (p+n)
 ⟨if(h.len+n)%64=0 then Xkz h.st (ldF blk) else h.st,blk,h.len+n⟩
def wrN:Nat→Hs→List Nat→Hs
 |0,h,_=>h
 |k+1,h,b=>if b=[] then h else wrN k (Xcu h b) (b.drop (min (64-h.len%64) b.length))
def wrF (h:Hs) (b:List Nat):Hs:=wrN b.length ⟨if h.len=0 then sh0 else h.st,h.blk,h.len⟩ b
def Yhd (len:Nat):Nat:=(119-len%64)%64
def Xw4 (len:Nat):List Nat:=128::List.replicate (Yhd len) 0++(List.range 8).map (fun k=>(8*len%18446744073709551616)/2^(56-8*k)%256)
def dgW (x:Nat):List Nat:=(List.range 4).map (fun k=>x/2^(24-8*k)%256)
def dgF (v:W8):List Nat:=[v.a,v.b,v.c,v.d,v.e,v.f,v.g,v.i].flatMap dgW
def hs0:Hs:=⟨⟨0,0,0,0,0,0,0,0⟩,List.replicate 64 0,0⟩
def smF (h:Hs):List Nat:=dgF (wrF h (Xw4 h.len)).st
def Xwb (l:List Nat):List Nat:=smF (wrF hs0 l)
def Xek:Nat→Nat→List Nat
 |0,u=>[48+u%10]
 |k+1,u=>if u<10 then[48+u] else Xek k (u/10)++[48+u%10]
def Xd1 (n:Int):List Nat:=if n<0 then 45::Xek 20 n.natAbs else Xek 20 n.toNat
def nxt (t:List Nat) (k:List Nat→List Nat→Nat):Nat:=match t with
 |[]=>4
 |_::u=>k (u.takeWhile fun c=>!decide (c=32)) (u.dropWhile fun c=>!decide (c=32))
def fin (t:List Nat):Nat:=if t=[] then 0 else 5
def Xhe (x:List Nat):Nat:=match Xe4 x with|none=>3|some i=>if i=zero32 then 1 else 0
def Xhw (x:List Nat):Nat:=if Xbg x=0 then 0 else 12
def Xkx (x:List Nat):Option Nat:=if x=[]∨7<x.length∨(1<x.length∧x.getD 0 0=48)∨x.all dig=false then none else some (x.foldl (fun n c=>10*n+(c-48)) 0)
def Xe1 (least most:Nat) (x:List Nat):Nat:=match Xkx x with|none=>3|some n=>if n<least∨most<n then 2 else 0
def ltL:List Nat→List Nat→Bool
 |a::s,b::t=>decide (a<b)||(decide (a=b)&&ltL s t)
 |[],_::_=>true
 |_,[]=>false
def Xlw:List (List Nat)→Bool
 |a::b::t=>ltL a b&&Xlw (b::t)
 |_=>true
def Xcy (x:List Nat):Nat:=match (spl 44 x).mapM Xeo with
 |none=>3
 |some l=>if 8<l.length then 9 else if Xlw l=false then 30 else 0
def prC (c:Nat):Bool:=decide (32≤c)&&decide (c≤126)
def Xmd (s:List Nat):Nat:=if 200<s.length then 5 else if s.all prC=false then 6 else if s.head?=some 32∨s.getLast?=some 32 then 3 else 0
def Xd2 (t:List Nat):Nat:=match t with
 |[]=>0
 |_::u=>if u=[] then 4 else Xmd u
def Xgj:List Nat:=[111,112,101,110]
def Xh4:List Nat:=[109,111,100,101,114,97,116,101,100]
def Xf5 (x:List Nat):Nat:=
 if(Xcj x).2.2≠0 then(Xcj x).2.2 else if(Xcj x).1.length<17 then 4 else if 17<(Xcj x).1.length then 5
 else if(Xcj x).1.getD 0 0<1∨8<(Xcj x).1.getD 0 0 then 2 else 0
def Xhv:List Nat:=[99,97,110,99,101,108]
def Xfr:List Nat:=[97,112,112,114,111,118,101]
def Xhu:List Nat:=[100,101,102,105,110,101]
def Xht:List Nat:=[114,101,109,111,118,101]
def Xlt:List Nat:=[114,101,107,101,121]
def Xu5 (k t:List Nat):Nat:=
 if k=Xhv then nxt t fun x t=>fe (Xhe x) (fin t)
 else if k=Xfr then nxt t fun x t=>fe (Xhe x) (nxt t fun y t=>fe (Xhw y) (fin t))
 else if k=Xhu then nxt t fun g t=>fe (Xhw g) (nxt t fun v t=>fe (Xe1 0 1000000 v) (nxt t fun m t=>
  if m=Xgj then Xd2 t else if m=Xh4 then nxt t fun a t=>fe (Xcy a) (Xd2 t) else 3))
 else if k=Xht then nxt t fun g t=>fe (Xhw g) (nxt t fun v t=>fe (Xe1 0 1000000 v) (fin t))
 else if k=Xlt then nxt t fun n t=>fe (Xe1 1 1000 n) (nxt t fun p t=>fe (Xf5 p) (fin t))
 else 11
def Xd4 (s:List Nat):Nat:=if 1000<s.length then 5 else Xu5 (s.takeWhile fun c=>!decide (c=32)) (s.dropWhile fun c=>!decide (c=32))
structure Cont where
 name:List Nat
 author:List Nat
 date:Int
 groups:List (List Nat)
 subject:List Nat
 refs:List (List Nat)
 sup:List Nat
 ctl:List Nat
 dist:List Nat
 number:Int
 height:Int
 root:List Nat
 leaf:Int
 body:List Nat
 deriving DecidableEq
def Xvk (c:Cont):Nat:=if c.ctl=[] then 0 else fe (eIf (!sqz c.ctl) 3) (fe (Xd4 c.ctl) (eIf (!decide (c.sup=zero32)) 11))
def Xau (n:Int):Bool:=decide (1≤n)&&decide (n≤8)
def Xbh (n:Int):Int:=if Xau n=true then 2^n.toNat else 0
def Xc3 (c:Cont):Nat:=
 fe (Xfa c.name 60)<|fe (eIf (decide (c.date<0)||decide (105190559<c.date)) 13)<|fe (Xbp c.groups)<|fe (Xfa c.subject 200)<|
 fe (Xer c.refs)<|fe (Xvk c)<|fe (Xkk c.dist)<|fe (eIf (decide (c.number<0)||decide (1000<c.number)) 2)<|
 fe (eIf (!Xau c.height) 2)<|fe (eIf (decide (c.leaf<0)||decide (Xbh c.height≤c.leaf)) 2)<|
 fe (eIf (decide (57344<c.body.length)) 5) (Xfk c.body)
def Xa0 (sep:List Nat):List (List Nat)→List Nat
 |[]=>[]
 |[x]=>x
 |x::y::r=>x++sep++Xa0 sep (y::r)
def Xhf (id:List Nat):List Nat:=if id=zero32 then[] else Xc2 id
def Xoa (c:Cont):List Nat:=(c.height%256).toNat::c.root
def Xj4 (c:Cont):List Nat:=Xd1 c.number++32::Xe5 (Xoa c)
def fWords:List (List Nat):=[
 [110,97,109,101],[97,117,116,104,111,114],[100,97,116,101],[103,114,111,117,112,115],[115,117,98,106,101,99,116],[114,101,102,101,114,101,110,99,101,115],
 [115,117,112,101,114,115,101,100,101,115],[99,111,110,116,114,111,108],[100,105,115,116,114,105,98,117,116,105,111,110],[107,101,121],[108,101,97,102]]
def Xa4 (c:Cont):List (List Nat):=[
 c.name,Xbz c.author,Xd1 c.date,Xa0 [44] c.groups,c.subject,Xa0 [32] (c.refs.map Xc2),
 Xhf c.sup,c.ctl,c.dist,Xj4 c,Xd1 c.leaf]
def Xbd (c:Cont):List Nat:=((fWords.zip (Xa4 c)).flatMap fun p=>p.1++32::p.2++[10])++10::c.body
def idF (c:Cont):List Nat:=Xwb (Xbd c)
def exC (x:Nat):Cont:=⟨[65,110,110],1::List.replicate 15 0,0,[[97,46,98]],[116,101,x],[],zero32,[],[],0,1,List.replicate 16 0,0,[]⟩
theorem Xyl (x:Nat) (h:x=97∨x=110):Xc3 (exC x)=0:=by rcases h with rfl|rfl<;>decide+kernel
theorem Yjv:idF (exC 97)≠idF (exC 110):=by decide+kernel
end Go.Proofs.YtohmdledkhgdaaaGreatDoor
