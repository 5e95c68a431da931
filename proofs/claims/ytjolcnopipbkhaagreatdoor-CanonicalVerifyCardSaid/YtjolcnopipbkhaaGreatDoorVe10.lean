/- What a card's proof asks of a content that came in: its cells, its lists, its sizes. -/
import Derived.Test.YtjolcnopipbkhaaGreatDoorRows
import Derived.Test.YtjolcnopipbkhaaGreatDoorVe09
import Derived.ProofKit
import Derived.ShutString
import Derived.ChangeOld
import Derived.Below
import Derived.SizedLaws
import Derived.Deep.DeepHandedRow
import Derived.Deep.Slices
import Derived.Test.YtjolcnopipbkhaaGreatDoorCards
import Derived.Test.YtjolcnopipbkhaaGreatDoorTie
import Derived.LaidSub
import Derived.Lay
import Derived.LaidMore
namespace Go.Proofs.YtjolcnopipbkhaaGreatDoor
open Go.Proofs.Tryz
open Go.ChangeShapes Go.WideShapes Go.ChangeAt Go.RowKit
open Go.ChangeMaps (open_string shut_string)
set_option linter.unusedVariables false
set_option maxHeartbeats 100000000
set_option maxRecDepth 100000
theorem own:ownKnob prog.godebug=none:=by kernel_rfl
theorem Yal:laidOutB prog=true:=by kernel_rfl
theorem Ynp:prog.cellsOf 28=75:=by kernel_rfl
theorem Xuf:prog.cellsOf 26=32:=by kernel_rfl
theorem Xit:prog.cellsOf 22=16:=by kernel_rfl
theorem Ylo:prog.cellsOf 5=1:=by kernel_rfl
theorem Xz2:prog.cellsOf 3=1:=by kernel_rfl
theorem Xwk:prog.cellsOf 9=1:=by kernel_rfl
theorem Ylp:prog.cellsOf 23=1:=by kernel_rfl
theorem Yls:prog.cellsOf 24=1:=by kernel_rfl
theorem Yer {w:World}{r:Reach}{base:Nat}{v:Value}(h:Value.okWide prog w r base 28 v):∃cs,v=.agg cs:=by simp only[Value.okWide,underlying28] at h;obtain⟨cs,a,_⟩:=h;exact⟨cs,a⟩
theorem Xfs {H:Type}{P:Program}{e:TypeId}:∀{ds:List (DataW H)} {d:DataW H},d∈ds→∀n∈d.weights P e,n∈DataW.weightsAll P e ds
 |d0::ds,d,a,n,hn=>by
  simp only[DataW.weightsAll,List.mem_append];rcases List.mem_cons.1 a with rfl|a;·exact .inl hn
  exact .inr (Xfs a n hn)
theorem Xh9 {H:Type}{P:Program}{t e:TypeId}(hu:P.underlying t=some (.slice e)){el sp:List (DataW H)}{d:DataW H}(hd:d∈el):∀n∈d.weights P e,n∈(DataW.slice el sp).weights P t:=by intro n a;simp only[DataW.weights,hu,List.mem_cons,List.mem_append];exact .inr (.inl (Xfs hd n a))
section
variable {H:Type} {enc:TypeId×Value→H} {w:World} {base:Nat} {spare:Nat→Bool} {held:Bool} {fuel:Nat} {cs:List Value} {x:DataW H×List MemPlace}
theorem Xeu {t:TypeId}{n:Nat}(ht:prog.underlying t=some (.array n 5))(hc:prog.cellsOf t=n)(h:DataW.trod enc prog w base spare held fuel t cs=some x):∃l:List Nat,l.length=n∧(∀x∈l,x<256)∧cs=l.map U:=by
 obtain⟨xs,m,_,_,b,hxl,hi⟩:=DataW.trod_array ht h;rw[hc] at b;have d:∀i (a:i<cs.length),∃n:Nat,n<256∧cs[i]=U n:=by
  intro i a;have k:=hi i (by omega);rw[Ylo,Nat.mul_one,List.drop_eq_getElem_cons a,List.getElem?_eq_getElem (by omega)] at k;obtain⟨n,f,_,o⟩:=DataW.trod_int underlying5 k;simp only[List.take_succ_cons,List.take_zero,List.cons.injEq,and_true] at f;have p:0≤n∧n≤255:=by simp[Lit.wf,IntKind.min,IntKind.max,IntKind.signed,IntKind.bits] at o;omega
  exact⟨n.toNat,by omega,by rw[f,U];congr 1;omega⟩
 have key:∀cs:List Value,(∀i (a:i<cs.length),∃n:Nat,n<256∧cs[i]=U n)→∃l:List Nat,(∀x∈l,x<256)∧cs=l.map U:=by
  intro cs
  induction cs with
  |nil=>exact fun _=>⟨[],by simp,rfl⟩
  |cons c cs ih=>intro h;obtain⟨l,g,e⟩:=ih (fun i a=>by have:=h (i+1) (by simpa using a);rw[List.getElem_cons_succ] at this;exact this);obtain⟨n,f,j⟩:=h 0 (by simp);simp only[List.getElem_cons_zero] at j;exact⟨n::l,by simpa using⟨f,g⟩,by rw[j,e];rfl⟩
 obtain⟨l,g,e⟩:=key cs d;exact⟨l,by rw[e,List.length_map] at b;exact b,g,e⟩
theorem Yeo (h:DataW.trod enc prog w base spare held fuel 23 cs=some x)(hw:∀n∈x.1.weights prog 23,n≤reachBytes):∃v gs,cs=[v]∧SRow w v gs∧gs.length≤Xdv∧∀g∈gs,g.size≤Xdv:=by
 rcases Go.Deep.open_slice1 underlying23 Xwk h with⟨rfl,_⟩|⟨a,len,cap,m,n,V,D,Pl,rfl,hb,hl,hm,hmm,rfl,hx⟩;·exact⟨_,[],rfl,⟨none,0,rfl,zL _,fun h=>absurd rfl h⟩,by simp,fun _ h=>by cases h⟩
 have A:len≤m:=by rw[hmm];split<;>omega
 have d:∀i,i<len→∃g:ByteArray,w.cell? (a.add i)=some (.string g)∧g.size≤Xdv:=by
  intro i hi;obtain⟨u,z⟩:=hx i (by omega);obtain⟨t,r,o,_⟩:=DataW.trod_string underlying9 z;simp only[List.cons.injEq,and_true] at r;refine⟨t,by rw[u,r],?_⟩;have:=hw t.data.toList.length (Xh9 underlying23 (List.mem_map.2 ⟨i,List.mem_range.2 hi,rfl⟩) _ (by
   have:D i=.lit (.string t.data.toList):=by injection o
   rw[this];simp[DataW.weights]))
  have e:t.data.toList.length=t.size:=rfl;rw[e] at this;unfold reachBytes at this;unfold Xdv;omega
 obtain⟨y,q⟩:=Go.Deep.choose_lt d;have k:len≤Xdv:=by have:=hw _ (by simp only[DataW.weights,underlying23];exact List.mem_cons_self ..);rw[show prog.bytesOf 9=16 by kernel_rfl] at this;simp at this;unfold reachBytes at this;unfold Xdv;omega
 refine⟨_,(List.range len).map y,rfl,⟨some a,cap,by simp,by simpa using hl,fun hne=>?_⟩,by simpa using k,fun g hg=>?_⟩
 ·have s:0<len:=by
   rcases Nat.eq_zero_or_pos len with h|h;·subst h;exact absurd rfl hne
   exact h
  obtain⟨b,off,l⟩:=a;have j:=(q 0 s).1;have c:l=none:=by simpa [Addr.add] using World.cell?_spot j
  subst c;refine⟨b,off,rfl,by simpa [Addr.add] using World.block_lt_of_cell? w _ j,fun i hi=>?_⟩;simp at hi;have:=(q i hi).1;have f:(⟨b,off,none⟩:Addr).add i=⟨b,off+i,none⟩:=by unfold Addr.add;split<;>simp_all
  rw[f] at this;rw[this];simp
 obtain⟨i,p,rfl⟩:=List.mem_map.1 hg;exact(q i (List.mem_range.1 p)).2
theorem Yi3 (h:DataW.trod enc prog w base spare held fuel 24 cs=some x)(hw:∀n∈x.1.weights prog 24,n≤reachBytes):∃v ids,cs=[v]∧IRow w v ids∧ids.length≤Xdv∧∀l∈ids,IdOk l:=by
 rcases Go.Deep.open_slice underlying24 h with⟨rfl,_⟩|⟨a,len,cap,m,n,D,Pl,rfl,hb,hl,hm,hmm,rfl,hx⟩;·exact⟨_,[],rfl,⟨none,0,rfl,zL _,fun h=>absurd rfl h⟩,by simp,fun _ h=>by cases h⟩
 have F:len≤m:=by rw[hmm];split<;>omega
 have e:∀i,i<len→∃l:List Nat,IdOk l∧∀k u,(idA l)[k]?=some u→w.cell? (a.add (i*32+k))=some u:=by
  intro i hi;obtain⟨cs',A,B⟩:=hx i (by omega);rw[Xuf] at A;obtain⟨l,g,t,rfl⟩:=Xeu underlying26 Xuf B;refine⟨l,⟨g,t⟩,fun k u hu=>?_⟩;obtain⟨_,C,q⟩:=World.cells?_some A;have E:k<32:=by have:=(Array.getElem?_eq_some_iff.1 hu).1;rw[Xaf,g] at this;exact this
  have:=q k E;have c:(a.add (i*32)).add k=a.add (i*32+k):=by unfold Addr.add;split<;>split<;>simp_all<;>omega
  rw[c] at this;rw[this];simpa [idA] using hu
 obtain⟨y,p⟩:=Go.Deep.choose_lt e;have j:len≤Xdv:=by have:=hw _ (by simp only[DataW.weights,underlying24];exact List.mem_cons_self ..);rw[show prog.bytesOf 26=32 by kernel_rfl] at this;simp at this;unfold reachBytes at this;unfold Xdv;omega
 refine⟨_,(List.range len).map y,rfl,⟨some a,cap,by simp,by simpa using hl,fun hne=>?_⟩,by simpa using j,fun l hg=>?_⟩
 ·have z:0<len:=by
   rcases Nat.eq_zero_or_pos len with h|h;·subst h;exact absurd rfl hne
   exact h
  obtain⟨b,off,o⟩:=a;have s:=(p 0 z).1;have f:=(p 0 z).2 0 ((idA (y 0))[0]'(by rw[Xaf,s.len];decide)) (Array.getElem?_eq_getElem _);have d:o=none:=by simpa [Addr.add] using World.cell?_spot f
  subst d;refine⟨b,off,rfl,by simpa [Addr.add] using World.block_lt_of_cell? w _ f,fun i hi k u hu=>?_⟩;simp at hi;simp at hu;have:=(p i hi).2 k u hu;have c:(⟨b,off,none⟩:Addr).add (i*32+k)=⟨b,off+i*32+k,none⟩:=by unfold Addr.add;split<;>simp_all<;>omega
  rw[c] at this;exact this
 obtain⟨i,r,rfl⟩:=List.mem_map.1 hg;exact(p i (List.mem_range.1 r)).1
theorem Xkc (h:DataW.trod enc prog w base spare held fuel 9 cs=some x)(hw:∀n∈x.1.weights prog 9,n≤reachBytes):∃s:ByteArray,cs=[.string s]∧s.size≤Xdv:=by obtain⟨t,b,a,_⟩:=DataW.trod_string underlying9 h;refine⟨t,b,?_⟩;have:=hw t.data.toList.length (by rw[a];simp[DataW.weights]);have e:t.data.toList.length=t.size:=rfl;rw[e] at this;unfold reachBytes at this;unfold Xdv;omega
theorem Xrx (h:DataW.trod enc prog w base spare held fuel 28 cs=some x)(hw:∀n∈x.1.weights prog 28,n≤reachBytes):∃(c:Cn) (gv rv:Value),cs=(c.cells gv rv).toList∧CnArg w c gv rv:=by
 obtain⟨xs,m,_,hx,o,hxl,b⟩:=DataW.trod_struct underlying28 h;rw[Ynp] at o;have U:xs.length=14:=hxl;have W:∀(j:Nat) (t:TypeId) (p:j<xs.length),((prog.underlying 28).bind fun u=>match u with|.struct fs=>(fs.toList.map (·.type))[j]?|_=>none)=some t→∀n∈(xs[j]'p).1.weights prog t,n≤reachBytes:=by intro j t p V n hn;refine hw n ?_;rw[hx];simp only[DataW.weights,underlying28];rw[underlying28] at V;exact DataW.weights_mem_each (j:=j) V (by rw[List.getElem?_map,List.getElem?_eq_getElem p];rfl) n hn
 have K:DataW.trod enc prog w base spare held m 9 ((cs.drop 0).take (prog.cellsOf 9))=xs[0]?:=b 0 _ rfl;have L:DataW.trod enc prog w base spare held m 22 ((cs.drop 1).take (prog.cellsOf 22))=xs[1]?:=b 1 _ rfl;have M:DataW.trod enc prog w base spare held m 3 ((cs.drop 17).take (prog.cellsOf 3))=xs[2]?:=b 2 _ rfl;have N:DataW.trod enc prog w base spare held m 23 ((cs.drop 18).take (prog.cellsOf 23))=xs[3]?:=b 3 _ rfl;have O:DataW.trod enc prog w base spare held m 9 ((cs.drop 19).take (prog.cellsOf 9))=xs[4]?:=b 4 _ rfl;have P:DataW.trod enc prog w base spare held m 24 ((cs.drop 20).take (prog.cellsOf 24))=xs[5]?:=b 5 _ rfl;have Q:DataW.trod enc prog w base spare held m 26 ((cs.drop 21).take (prog.cellsOf 26))=xs[6]?:=b 6 _ rfl;have R:DataW.trod enc prog w base spare held m 9 ((cs.drop 53).take (prog.cellsOf 9))=xs[7]?:=b 7 _ rfl;have S:DataW.trod enc prog w base spare held m 9 ((cs.drop 54).take (prog.cellsOf 9))=xs[8]?:=b 8 _ rfl;have T:DataW.trod enc prog w base spare held m 3 ((cs.drop 55).take (prog.cellsOf 3))=xs[9]?:=b 9 _ rfl;have d:DataW.trod enc prog w base spare held m 3 ((cs.drop 56).take (prog.cellsOf 3))=xs[10]?:=b 10 _ rfl;have e:DataW.trod enc prog w base spare held m 22 ((cs.drop 57).take (prog.cellsOf 22))=xs[11]?:=b 11 _ rfl;have f:DataW.trod enc prog w base spare held m 3 ((cs.drop 73).take (prog.cellsOf 3))=xs[12]?:=b 12 _ rfl;have l:DataW.trod enc prog w base spare held m 9 ((cs.drop 74).take (prog.cellsOf 9))=xs[13]?:=b 13 _ rfl;have g (j:Nat) (p:j<14):xs[j]?=some (xs[j]'(by omega)):=List.getElem?_eq_getElem _;rw[g 0 (by decide),Xwk] at K;rw[g 1 (by decide),Xit] at L;rw[g 2 (by decide),Xz2] at M;rw[g 3 (by decide),Ylp] at N;rw[g 4 (by decide),Xwk] at O;rw[g 5 (by decide),Yls] at P;rw[g 6 (by decide),Xuf] at Q;rw[g 7 (by decide),Xwk] at R;rw[g 8 (by decide),Xwk] at S;rw[g 9 (by decide),Xz2] at T;rw[g 10 (by decide),Xz2] at d;rw[g 11 (by decide),Xit] at e;rw[g 12 (by decide),Xz2] at f;rw[g 13 (by decide),Xwk] at l;obtain⟨s0,e0,z0⟩:=Xkc K (W 0 _ (by omega) rfl);obtain⟨l1,X,Z,e1⟩:=Xeu underlying22 Xit L;obtain⟨n2,e2,_,w2⟩:=DataW.trod_int underlying3 M;obtain⟨v3,gs,e3,r3,z3,y3⟩:=Yeo N (W 3 _ (by omega) rfl);obtain⟨s4,e4,z4⟩:=Xkc O (W 4 _ (by omega) rfl);obtain⟨v5,B,e5,r5,z5,y5⟩:=Yi3 P (W 5 _ (by omega) rfl);obtain⟨l6,Y,b6,e6⟩:=Xeu underlying26 Xuf Q;obtain⟨s7,e7,z7⟩:=Xkc R (W 7 _ (by omega) rfl);obtain⟨s8,e8,z8⟩:=Xkc S (W 8 _ (by omega) rfl);obtain⟨n9,e9,_,w9⟩:=DataW.trod_int underlying3 T;obtain⟨D,v,_,G⟩:=DataW.trod_int underlying3 d;obtain⟨C,q,r,y⟩:=Xeu underlying22 Xit e;obtain⟨E,z,_,I⟩:=DataW.trod_int underlying3 f;obtain⟨F,A,J⟩:=Xkc l (W 13 _ (by omega) rfl);refine⟨⟨s0,l1,n2,gs,s4,B,l6,s7,s8,n9,D,C,E,F⟩,v3,v5,?_,⟨⟨⟨X,Z⟩,⟨q,r⟩,⟨Y,b6⟩,y5,w2,w9,G,I⟩,z0,z4,z7,z8,J,z3,y3,z5,r3,r5⟩⟩;have a:∀(i k:Nat),cs.drop i=(cs.drop i).take k++cs.drop (i+k):=fun i k=>by have:=(List.take_append_drop k (cs.drop i)).symm;rwa [List.drop_drop] at this
 have s:cs=cs.drop 0:=rfl;rw[s,a 0 1,a 1 16,a 17 1,a 18 1,a 19 1,a 20 1,a 21 32,a 53 1,a 54 1,a 55 1,a 56 1,a 57 16,a 73 1,a 74 1,e0,e1,e2,e3,e4,e5,e6,e7,e8,e9,v,y,z,A];rw[show cs.drop (74+1)=[] from List.drop_of_length_le (by omega)];simp[Cn.cells]
end
def laidL : List (String × DataW Unit) := [("math/bits.deBruijn32tab", Rows.laid_math_bits_deBruijn32tab), ("math/bits.deBruijn64tab", Rows.laid_math_bits_deBruijn64tab), ("internal/strconv.uint64pow10", Rows.laid_internal_strconv_uint64pow10), ("unicode/utf8.acceptRanges", Rows.laid_unicode_utf8_acceptRanges), ("bulletin/base64.alphabet", Rows.laid_bulletin_base64_alphabet), ("bulletin/sha256.constants", Rows.laid_bulletin_sha256_constants), ("bulletin/canonical.formWords", Rows.laid_bulletin_canonical_formWords), ("unicode/utf8.first", Rows.laid_unicode_utf8_first)]
theorem Yll:(laidL.all fun x=>x.2.handleName?.isNone)=true:=by kernel_rfl
theorem Xf5 {W:World}(h:laidMetH prog laidL W):laidMet prog laidL W:=by rwa [MakeChecks.laidMetH_plain _ _ _ Yll] at h
theorem Yn8 : (laidL.filter fun x => x.1 == "bulletin/base64.alphabet") = [("bulletin/base64.alphabet", Lib.tabData .u8 (alph.map fun n : Nat => (n : Int)))] := by kernel_rfl
theorem Yn6 : (laidL.filter fun x => x.1 == "internal/strconv.uint64pow10") = [("internal/strconv.uint64pow10", Lib.tabData .u64 Lib.pow10Tab)] := by kernel_rfl
theorem Yn7 : (laidL.filter fun x => x.1 == "bulletin/sha256.constants") = [("bulletin/sha256.constants", Lib.tabData .u32 ((List.range 64).map fun c => ((shK.getD c 0 : Nat) : Int)))] := by kernel_rfl
theorem Yn5 : (laidL.filter fun x => x.1 == "bulletin/canonical.formWords") = [("bulletin/canonical.formWords", .agg (fWords.map fun l => .lit (.string (l.map UInt8.ofNat))))] := by kernel_rfl
theorem Yoq : prog.globalNamed "bulletin/base64.alphabet" = some 3 := by kernel_rfl
theorem Yow : prog.globalNamed "internal/strconv.uint64pow10" = some 4 := by kernel_rfl
theorem Yor : prog.globalNamed "bulletin/sha256.constants" = some 1 := by kernel_rfl
theorem gFw : prog.globalNamed "bulletin/canonical.formWords" = some 0 := by kernel_rfl
theorem Yk9 {W:World}(h:laidMet prog laidL W):Tab W:=by
 have h1 := h.filter (fun x => x.1 == "bulletin/base64.alphabet");rw[Yn8] at h1;have ht : Lib.TabIs prog W "bulletin/base64.alphabet" .u8 (alph.map fun n : Nat => (n : Int)) := Lib.tabIs_of_head (rest := []) Yoq (show (prog.globals[3]?).map (·.type) = some 184 by kernel_rfl) underlying184 underlying5 (by kernel_rfl) (by kernel_rfl) h1;have hc:∀g,g<64→W.cell? ⟨3,g,none⟩=some (U (al g)):=fun g hg=>by
  have:=ht.cell Yoq g (by simp[alph];omega);rw[this];have hl:g<alph.length:=by simp[alph];omega
  simp[U,al,List.getD,List.getElem?_eq_getElem hl]
 exact⟨World.block_lt_of_cell? W _ (hc 0 (by omega)),hc⟩
theorem Ylk {W : World}(h : laidMet prog laidL W) : Lib.TabIs prog W "internal/strconv.uint64pow10" .u64 Lib.pow10Tab := by
  have h1 := h.filter (fun x => x.1 == "internal/strconv.uint64pow10");rw[Yn6] at h1;exact Lib.tabIs_of_head (rest:=[]) Yow (show(prog.globals[4]?).map (·.type)=some 310 by kernel_rfl) underlying310 underlying158 (by kernel_rfl) (by kernel_rfl) h1
theorem Ylc {W:World}(h:laidMet prog laidL W):∀i,i<64→W.cell? ⟨1,i,none⟩=some (.int .u32 ((shK.getD i 0:Nat):Int)):=by have h1 := h.filter (fun x => x.1 == "bulletin/sha256.constants");rw[Yn7] at h1;have ht : Lib.TabIs prog W "bulletin/sha256.constants" .u32 ((List.range 64).map fun c => ((shK.getD c 0 : Nat) : Int)) := Lib.tabIs_of_head (rest := []) Yor (show (prog.globals[1]?).map (·.type) = some 165 by kernel_rfl) underlying165 underlying163 (by kernel_rfl) (by kernel_rfl) h1;intro c hc;have:=ht.cell Yor c (by simp;omega);rw[this];simp[List.getD,hc]
theorem Xly {H:Type}{enc:TypeId×Value→H}{W:World}{base:Nat}{sp:Nat→Bool}{held:Bool}{fuel:Nat}{cs:List Value}{ws:List (List UInt8)}{p:List MemPlace} (h:DataW.trod enc prog W base sp held fuel 80 cs=some (.agg (ws.map fun l=>.lit (.string l)),p)):cs=ws.map fun l=>.string ⟨l.toArray⟩:=by
 obtain⟨xs,m,_,e,a,hxl,hi⟩:=DataW.trod_array underlying80 h;rw[show prog.cellsOf 80=11 by kernel_rfl] at a;simp only[Prod.mk.injEq,DataW.agg.injEq] at e;have d:ws.length=11:=by have:=congrArg List.length e.1;simp at this;omega
 refine List.ext_getElem (by simp[a,d]) fun i h1 h2=>?_;have g:=hi i (by omega);rw[show prog.cellsOf 9=1 by kernel_rfl,Nat.mul_one,List.drop_eq_getElem_cons h1,List.getElem?_eq_getElem (by omega)] at g;obtain⟨t,f,c,_⟩:=DataW.trod_string underlying9 g;simp only[List.take_succ_cons,List.take_zero,List.cons.injEq,and_true] at f;have b:(ws.map fun l=>(DataW.lit (.string l):DataW H))[i]?=(xs.map (·.1))[i]?:=by rw[e.1]
 rw[List.getElem?_map,List.getElem?_map,List.getElem?_eq_getElem (by omega),List.getElem?_eq_getElem (by omega)] at b;simp only[Option.map_some,Option.some.injEq] at b;rw[c] at b;simp only[DataW.lit.injEq,Lit.string.injEq] at b;rw[f,List.getElem_map,b]
theorem Yda:∀i,i<11→((fWords.map fun l=>(l.map UInt8.ofNat:List UInt8)).map fun l=>(Value.string ⟨l.toArray⟩))[i]?=some (.string (Xax (fWords.getD i []))):=by intro i hi;rcases(by omega:i=0∨i=1∨i=2∨i=3∨i=4∨i=5∨i=6∨i=7∨i=8∨i=9∨i=10) with rfl|rfl|rfl|rfl|rfl|rfl|rfl|rfl|rfl|rfl|rfl<;>kernel_rfl
theorem Yn4 {W:World}(h:laidMet prog laidL W):∀i,i<11→W.cell? ⟨0,i,none⟩=some (.string (Xax (fWords.getD i []))):=by have h1 := h.filter (fun x => x.1 == "bulletin/canonical.formWords");rw[Yn5] at h1;obtain⟨ps,⟨g',t',cs,fuel,p,q,hg',ht',hvar,hd,_,_⟩,_⟩:=h1;obtain rfl:=Option.some.inj (gFw.symm.trans hg');obtain rfl:=Option.some.inj ((show(prog.globals[0]?).map (·.type)=some 80 by kernel_rfl).symm.trans ht');have hc:=Xly (ws:=fWords.map fun l=>l.map UInt8.ofNat) (by rw[List.map_map];exact hd);intro i hi;have:=World.var?_cell gFw hvar i;rw[this];have e:=Yda i hi;rw[←hc] at e;simpa using e
theorem Ynq {W:World}(h:W.ShapedOpen prog):∃m,W.cell? ⟨2,0,none⟩=some (.int .i64 m):=
 Go.Proofs.cell_of_shapedOpen_int (zero:=#[.int .i64 0]) (t:=3) h (of_decide_eq_true (by kernel_rfl)) (by kernel_rfl) rfl (by kernel_rfl) (by kernel_rfl) underlying3
theorem Ye9:(((begin prog (fun _ _=>0) default).world.heap[8]?).bind Obj.row?).isSome=true:=by kernel_rfl
theorem Yig {W:World}(h:W.ShapedOpen prog):9≤W.heap.size:=by obtain⟨⟨zero,t⟩,b⟩:=Option.isSome_iff_exists.1 Ye9;obtain⟨cs,a,_,_⟩:=h.1 8 zero t (of_decide_eq_true (by kernel_rfl)) b;exact zY a
theorem Ymn {W:World}(h:laidMetH prog laidL W)(hs:W.ShapedOpen prog):Env W:=
 ⟨Yk9 (Xf5 h),Ylk (Xf5 h),Ynq hs,Ylc (Xf5 h),Yn4 (Xf5 h),Yig hs⟩
theorem Yh0 {H:Type}{enc:TypeId×Value→H}{os:Os}{f:FuncId}{fn:Func}{s:OpenSpec}{conds:List PathCond}{apart:Bool}(args:Array Value) (hsh:((World.laidAll prog os laidL).forCall (fun _ _=>0) ⟨#[],args,[]⟩).Shaped prog) (hok:Input.okWideB prog ((World.laidAll prog os laidL).forCall (fun _ _=>0) ⟨#[],args,[]⟩) f ⟨#[],args,[]⟩=true) (hrow:s.preRow enc prog fn conds apart laidL ((World.laidAll prog os laidL).forCall (fun _ _=>0) ⟨#[],args,[]⟩).memory args):∃(w:World) (tape:Tape) (i:Input),w.os=os∧(w.forCall tape i).Shaped prog∧i.vars=[]∧Input.okWide prog (w.forCall tape i) .any w.heap.size f i∧
     s.preRow enc prog fn conds apart laidL (w.forCall tape i).memory i.args∧({}:Assume).holds prog (lone (Frame.enter prog f i.args .normal) [] (w.forCall tape i)):=
 ⟨World.laidAll prog os laidL,fun _ _=>0,⟨#[],args,[]⟩,World.laidAll_os _ _ _,hsh,(Input.okWide_of_okWideB (base:=0) hok).1,(Input.okWide_of_okWideB hok).2,hrow,by simp only[Assume.holds];exact⟨by simp,by simp,by simp,by simp,by simp⟩⟩
theorem Yox (os:Os):(World.holding prog os ⟨#[],#[],[]⟩).layFits prog laidL []=true:=by kernel_rfl
theorem Ymc (os:Os):(World.holding prog os ⟨#[],#[],[]⟩).layIfaces prog laidL (World.laidAll prog os laidL)=true:=by kernel_rfl
theorem Xqp {W:World}{base:Nat}{v:Value}{H:Type}{enc:TypeId×Value→H}{d:DataW H}{p:List MemPlace}(hv:Value.okWide prog W .any base 28 v)(h:DataW.Trod enc prog W 0 (fun _=>true) true 28 v d p) (hw:∀n∈d.weights prog 28,n≤reachBytes):∃(c:Cn) (a b:Value),v=.agg (c.cells a b)∧CnArg W c a b:=by obtain⟨cs,rfl⟩:=Yer hv;obtain⟨m,g⟩:=h;obtain⟨c,a,b,e,f⟩:=Xrx g hw;exact⟨c,a,b,by rw[show cs=c.cells a b from Array.toList_inj.1 (by simpa [Value.cells] using e)],f⟩
def Yc8:Array Value:=cn0.cells (.slice none 0 0) (.slice none 0 0)
end Go.Proofs.YtjolcnopipbkhaaGreatDoor
/- Plain: the digest as the reference reckons it (block by block, with all 64 words) is the digest of the code. -/
namespace Go.Proofs.YtjolcnopipbkhaaGreatDoor
open Go.Proofs.Tryz
open Go.RowKit Go.Maps
set_option linter.unusedVariables false
set_option maxRecDepth 100000
set_option maxHeartbeats 100000000
def Xlk (h:W8):Nat→List Nat→W8
 |0,_=>h
 |n+1,l=>Xlk (Xgy h (ldF (l.take 64))) n (l.drop 64)
theorem Xlc (n:Nat):∀(h:W8) (l:List Nat),Xlk h (n+1) l=Xgy (Xlk h n l) (ldF ((l.drop (64*n)).take 64)):=by
 induction n with
 |zero=>intro h l;rfl
 |succ n ih=>intro h l;rw[Xlk,ih,Xlk,List.drop_drop,show 64+64*n=64*(n+1) by omega]
theorem Xvd (n:Nat):∀(h:W8) (l r:List Nat),64*n≤l.length→Xlk h n (l++r)=Xlk h n l:=by
 induction n with
 |zero=>intro h l r _;rfl
 |succ n ih=>intro h l r a;rw[Xlk,Xlk,List.take_append_of_le_length (by omega),List.drop_append_of_le_length (by omega)];exact ih _ _ _ (by rw[List.length_drop];omega)
structure Rep (h:Hs) (d:List Nat):Prop where
 len:h.len=d.length
 st:h.st=Xlk sh0 (d.length/64) d
 bl:h.blk.length=64
 blk:h.blk.take (d.length%64)=d.drop (64*(d.length/64))
theorem Yd9 {h:Hs}{d:List Nat}(r:Rep h d)(b:List Nat)(hb:b≠[]):Rep (Xcl h b) (d++b.take (min (64-h.len%64) b.length)):=by
 have v:0<b.length:=List.length_pos_iff.2 hb;obtain⟨p,t⟩:=xq (d.length%64);obtain⟨q,u⟩:=xq (d.length/64);have y:d.length=64*q+p:=by omega
 have w:p<64:=by omega
 have e:h.len%64=p:=by rw[r.len,t]
 obtain⟨n,s⟩:=xq (min (64-p) b.length);have z:1≤n:=by omega
 have A:p+n≤64:=by omega
 have B:n≤b.length:=by omega
 have g:=r.blk;have k:=r.st;rw[←t,←u] at g;rw[←u] at k;have x:=r.bl;have lt:(b.take n).length=n:=by rw[List.length_take];omega
 have f:(d.drop (64*q)).length=p:=by rw[List.length_drop];omega
 have a:(d++b.take n).length=64*q+(p+n):=by rw[List.length_append,lt];omega
 have o:(d++b.take n).drop (64*q)=d.drop (64*q)++b.take n:=List.drop_append_of_le_length (by omega);rw[e,←s];have E:Xcl h b=⟨if(h.len+n)%64=0 then Xgy h.st (ldF (h.blk.take p++b.take n++h.blk.drop (p+n))) else h.st,h.blk.take p++b.take n++h.blk.drop (p+n),h.len+n⟩:=by unfold Xcl;simp only[e,←s]
 rw[E];by_cases h64:p+n=64
 ·have c:(d++b.take n).length/64=q+1:=by rw[a];omega
  have i:(d++b.take n).length%64=0:=by rw[a];omega
  have j:(h.len+n)%64=0:=by rw[r.len];omega
  have m:h.blk.drop (p+n)=[]:=List.drop_of_length_le (by omega);refine⟨by rw[a];show h.len+n=_;rw[r.len];omega,?_,?_,?_⟩;·rw[c,Xlc,o,qP j,m,List.append_nil,g,k,Xvd _ _ _ _ (by omega)];rw[List.take_of_length_le (l:=d.drop (64*q)++b.take n) (by rw[List.length_append,f,lt];omega)]
  ·show(h.blk.take p++b.take n++h.blk.drop (p+n)).length=64;rw[m,g,List.append_nil,List.length_append,f,lt];omega
  rw[i,c,List.take_zero];exact(List.drop_of_length_le (by rw[a];omega)).symm
 have c:(d++b.take n).length/64=q:=by rw[a];omega
 have i:(d++b.take n).length%64=p+n:=by rw[a];omega
 have j:¬(h.len+n)%64=0:=by rw[r.len];omega
 refine⟨by rw[a];show h.len+n=_;rw[r.len];omega,?_,?_,?_⟩;·rw[c,qN j,k,Xvd _ _ _ _ (by omega)]
 ·show(h.blk.take p++b.take n++h.blk.drop (p+n)).length=64;rw[g,List.length_append,List.length_append,f,lt,List.length_drop];omega
 rw[i,c,o];show(h.blk.take p++b.take n++h.blk.drop (p+n)).take (p+n)=_;rw[g,List.take_append_of_le_length (by rw[List.length_append,f,lt];omega),List.take_of_length_le (l:=d.drop (64*q)++b.take n) (by rw[List.length_append,f,lt];omega)]
theorem Xzi:∀(k:Nat) {h:Hs} {d:List Nat} (b:List Nat),Rep h d→b.length≤k→Rep (wrN k h b) (d++b)
 |0,h,d,b,r,hb=>by have:b=[]:=List.length_eq_zero_iff.1 (by omega);subst this;rw[List.append_nil];exact r
 |k+1,h,d,b,r,hb=>by
  unfold wrN;by_cases h0:b=[]
  ·rw[qP h0,h0,List.append_nil];exact r
  rw[qN h0];have a:0<b.length:=List.length_pos_iff.2 h0;have:=Xzi k (b.drop (min (64-h.len%64) b.length)) (Yd9 r b h0) (by rw[List.length_drop];omega);rwa [List.append_assoc,List.take_append_drop] at this
theorem Xzj {h:Hs}{d:List Nat}(b:List Nat)(r:Rep ⟨if h.len=0 then sh0 else h.st,h.blk,h.len⟩ d):Rep (wrF h b) (d++b):=Xzi _ _ r (zL _)
theorem Xzk {h:Hs}{d:List Nat}(r:Rep h d):Rep ⟨if h.len=0 then sh0 else h.st,h.blk,h.len⟩ d:=by
 refine⟨r.len,?_,r.bl,r.blk⟩;show(if h.len=0 then sh0 else h.st)=_;split;·have:d=[]:=List.length_eq_zero_iff.1 (by have:=r.len;omega);subst this;rfl
 exact r.st
def pdF (l:List Nat):List Nat:=l++Xrv l.length
theorem Xpw (n:Nat):(Xrv n).length=9+Yhd n:=by simp[Xrv];omega
theorem Yix (l:List Nat):(pdF l).length=64*((pdF l).length/64):=by unfold pdF;rw[List.length_append,Xpw];unfold Yhd;omega
theorem Yih (l:List Nat):Xfn l=dgF (Xlk sh0 ((pdF l).length/64) (pdF l)):=by
 have b:Rep ⟨if hs0.len=0 then sh0 else hs0.st,hs0.blk,hs0.len⟩ []:=⟨rfl,rfl,rfl,rfl⟩
 have a:Rep (wrF hs0 l) l:=by have:=Xzj l b;rwa [List.nil_append] at this
 have c:=Xzj (Xrv (wrF hs0 l).len) (Xzk a);unfold Xfn smF;rw[c.st,a.len];rfl
def be4 (a b c d:Nat):Nat:=((Xdq a 24|||Xdq b 16)|||Xdq c 8)|||d
def Xok (a b c d:Nat):Nat:=Xdq (Xdq (Xdq (Xdq 0 8|||a) 8|||b) 8|||c) 8|||d
theorem Xh8 {x b:Nat}(k:Nat)(hk:2^k∣x)(hb:b<2^k):x|||b=x+b:=by obtain⟨y,rfl⟩:=hk;exact(Nat.two_pow_add_eq_or_of_lt hb y).symm
theorem Ym4 {a b c d:Nat}(ha:a<256)(hb:b<256)(hc:c<256)(hd:d<256):Xok a b c d=be4 a b c d:=by
 have h:be4 a b c d=a*16777216+b*65536+c*256+d:=by unfold be4 Xdq;rw[Nat.mod_eq_of_lt (by omega),Nat.mod_eq_of_lt (by omega),Nat.mod_eq_of_lt (by omega)];have e:a*2^24|||b*2^16=a*2^24+b*2^16:=Xh8 24 ⟨a,by omega⟩ (by omega);have f:a*2^24+b*2^16|||c*2^8=a*2^24+b*2^16+c*2^8:=Xh8 16 ⟨a*256+b,by omega⟩ (by omega);have g:a*2^24+b*2^16+c*2^8|||d=a*2^24+b*2^16+c*2^8+d:=Xh8 8 ⟨a*65536+b*256+c,by omega⟩ (by omega);rw[e,f,g]
 have i:Xok a b c d=a*16777216+b*65536+c*256+d:=by unfold Xok Xdq;rw[show 0*2^8%4294967296=0 from rfl,Nat.zero_or];rw[Nat.mod_eq_of_lt (show a*2^8<4294967296 by omega),Xh8 8 ⟨a,by omega⟩ (by omega:b<2^8)];rw[Nat.mod_eq_of_lt (show(a*2^8+b)*2^8<4294967296 by omega),Xh8 8 ⟨a*2^8+b,by omega⟩ (by omega:c<2^8)];rw[Nat.mod_eq_of_lt (show((a*2^8+b)*2^8+c)*2^8<4294967296 by omega),Xh8 8 ⟨(a*2^8+b)*2^8+c,by omega⟩ (by omega:d<2^8)];omega
 rw[h,i]
def beW (b:List Nat)(t:Nat):Nat:=be4 (b.getD (4*t) 0) (b.getD (4*t+1) 0) (b.getD (4*t+2) 0) (b.getD (4*t+3) 0)
def sg0 (x:Nat):Nat:=rot x 7^^^rot x 18^^^x/2^3
def sg1 (x:Nat):Nat:=rot x 17^^^rot x 19^^^x/2^10
def Xt1 (b ws:List Nat)(t:Nat):Nat:=if t<16 then beW b t else Xba (Xba (Xba (sg1 (ws.getD (t-2) 0)) (ws.getD (t-7) 0)) (sg0 (ws.getD (t-15) 0))) (ws.getD (t-16) 0)
def Xj5 (b ws:List Nat)(t:Nat):List Nat:=ws.set t (Xt1 b ws t)
def Xcr (b:List Nat)(n:Nat):List Nat:=(List.range n).foldl (Xj5 b) (List.replicate 64 0)
theorem Xen (b:List Nat)(n:Nat):Xcr b (n+1)=Xj5 b (Xcr b n) n:=by simp[Xcr,List.range_succ]
def Xnj (b:List Nat):List Nat:=Xcr b 64
theorem Xhe (b:List Nat)(n:Nat):(Xcr b n).length=64:=by
 induction n with
 |zero=>simp[Xcr]
 |succ n ih=>rw[Xen,Xj5,List.length_set,ih]
theorem Xhl {l:List Nat}{i j v:Nat}(hi:i<l.length):(l.set i v).getD j 0=if j=i then v else l.getD j 0:=by
 rw[List.getD_eq_getElem?_getD,List.getD_eq_getElem?_getD,List.getElem?_set];by_cases h:i=j;·subst h;simp[hi]
 rw[qN h,qN (fun e=>h e.symm)]
theorem Xni (b:List Nat){t n:Nat}(ht:t<n)(hn:n≤64):(Xcr b n).getD t 0=(Xcr b (t+1)).getD t 0:=by
 induction n with
 |zero=>omega
 |succ n ih=>
  by_cases h:t=n;·rw[h]
  rw[Xen,Xj5,Xhl (by rw[Xhe];omega),qN h];exact ih (by omega) (by omega)
theorem Yg4 (b:List Nat){t:Nat}(ht:t<64):(Xnj b).getD t 0=Xt1 b (Xnj b) t:=by
 have e:(Xnj b).getD t 0=Xt1 b (Xcr b t) t:=by unfold Xnj;rw[Xni b ht (zL _),Xen,Xj5,Xhl (by rw[Xhe];omega),qP rfl]
 rw[e];unfold Xt1;by_cases h:t<16;·rw[qP h,qP h]
 rw[qN h,qN h];have k:∀d,0<d→d≤16→(Xcr b t).getD (t-d) 0=(Xnj b).getD (t-d) 0:=fun d h1 h2=>by unfold Xnj;rw[Xni b (show t-d<t by omega) (by omega),Xni b (show t-d<64 by omega) (zL _)]
 rw[k 2 (by omega) (by omega),k 7 (by omega) (by omega),k 15 (by omega) (by omega),k 16 (by omega) (by omega)]
theorem Ye8 (b0 b1 b2 b3 b4 b5 b6 b7 b8 b9 b10 b11 b12 b13 b14 b15 b16 b17 b18 b19 b20 b21 b22 b23 b24 b25 b26 b27 b28 b29 b30 b31 b32 b33 b34 b35 b36 b37 b38 b39 b40 b41 b42 b43 b44 b45 b46 b47 b48 b49 b50 b51 b52 b53 b54 b55 b56 b57 b58 b59 b60 b61 b62 b63:Nat):ldF (b0::b1::b2::b3::b4::b5::b6::b7::b8::b9::b10::b11::b12::b13::b14::b15::b16::b17::b18::b19::b20::b21::b22::b23::b24::b25::b26::b27::b28::b29::b30::b31::b32::b33::b34::b35::b36::b37::b38::b39::b40::b41::b42::b43::b44::b45::b46::b47::b48::b49::b50::b51::b52::b53::b54::b55::b56::b57::b58::b59::b60::b61::b62::b63::[])=[Xok b0 b1 b2 b3,Xok b4 b5 b6 b7,Xok b8 b9 b10 b11,Xok b12 b13 b14 b15,Xok b16 b17 b18 b19,Xok b20 b21 b22 b23,Xok b24 b25 b26 b27,Xok b28 b29 b30 b31,Xok b32 b33 b34 b35,Xok b36 b37 b38 b39,Xok b40 b41 b42 b43,Xok b44 b45 b46 b47,Xok b48 b49 b50 b51,Xok b52 b53 b54 b55,Xok b56 b57 b58 b59,Xok b60 b61 b62 b63]:=by kernel_rfl
theorem Yl2:∀{b:List Nat},b.length=64→∃b0 b1 b2 b3 b4 b5 b6 b7 b8 b9 b10 b11 b12 b13 b14 b15 b16 b17 b18 b19 b20 b21 b22 b23 b24 b25 b26 b27 b28 b29 b30 b31 b32 b33 b34 b35 b36 b37 b38 b39 b40 b41 b42 b43 b44 b45 b46 b47 b48 b49 b50 b51 b52 b53 b54 b55 b56 b57 b58 b59 b60 b61 b62 b63,b=(b0::b1::b2::b3::b4::b5::b6::b7::b8::b9::b10::b11::b12::b13::b14::b15::b16::b17::b18::b19::b20::b21::b22::b23::b24::b25::b26::b27::b28::b29::b30::b31::b32::b33::b34::b35::b36::b37::b38::b39::b40::b41::b42::b43::b44::b45::b46::b47::b48::b49::b50::b51::b52::b53::b54::b55::b56::b57::b58::b59::b60::b61::b62::b63::[])
 |b0::b1::b2::b3::b4::b5::b6::b7::b8::b9::b10::b11::b12::b13::b14::b15::b16::b17::b18::b19::b20::b21::b22::b23::b24::b25::b26::b27::b28::b29::b30::b31::b32::b33::b34::b35::b36::b37::b38::b39::b40::b41::b42::b43::b44::b45::b46::b47::b48::b49::b50::b51::b52::b53::b54::b55::b56::b57::b58::b59::b60::b61::b62::b63::[],_=>⟨b0,b1,b2,b3,b4,b5,b6,b7,b8,b9,b10,b11,b12,b13,b14,b15,b16,b17,b18,b19,b20,b21,b22,b23,b24,b25,b26,b27,b28,b29,b30,b31,b32,b33,b34,b35,b36,b37,b38,b39,b40,b41,b42,b43,b44,b45,b46,b47,b48,b49,b50,b51,b52,b53,b54,b55,b56,b57,b58,b59,b60,b61,b62,b63,rfl⟩
theorem Yl3 {b:List Nat}(hl:b.length=64)(h:∀x∈b,x<256):∀t,t<16→(ldF b).getD t 0=beW b t:=by
 obtain⟨b0,b1,b2,b3,b4,b5,b6,b7,b8,b9,a,c,d,f,g,j,k,l,m,n,o,p,q,r,s,u,v,w,y,z,A,B,C,D,E,F,G,H,I,J,K,L,M,N,O,P,Q,R,S,T,U,V,W,X,Y,Z,aA,aB,aC,aD,aE,aF,aG,aH,rfl⟩:=Yl2 hl;intro t ht;rw[Ye8];have e:∀i,i<64→((b0::b1::b2::b3::b4::b5::b6::b7::b8::b9::a::c::d::f::g::j::k::l::m::n::o::p::q::r::s::u::v::w::y::z::A::B::C::D::E::F::G::H::I::J::K::L::M::N::O::P::Q::R::S::T::U::V::W::X::Y::Z::aA::aB::aC::aD::aE::aF::aG::aH::[]):List Nat).getD i 0<256:=fun i hi=>by rw[List.getD_eq_getElem?_getD,List.getElem?_eq_getElem (by simpa using hi),Option.getD_some];exact h _ (zG _)
 unfold beW;rw[←Ym4 (e _ (by omega)) (e _ (by omega)) (e _ (by omega)) (e _ (by omega))];clear e h;rcases(by omega:t=0∨t=1∨t=2∨t=3∨t=4∨t=5∨t=6∨t=7∨t=8∨t=9∨t=10∨t=11∨t=12∨t=13∨t=14∨t=15) with rfl|rfl|rfl|rfl|rfl|rfl|rfl|rfl|rfl|rfl|rfl|rfl|rfl|rfl|rfl|rfl<;>rfl
def Xv5 (ws:List Nat)(h:W8)(n:Nat):W8:=(List.range n).foldl (fun v t=>rnd v (shK.getD t 0) (ws.getD t 0)) h
theorem Xj7 (ws:List Nat)(h:W8)(n:Nat):Xv5 ws h (n+1)=rnd (Xv5 ws h n) (shK.getD n 0) (ws.getD n 0):=by simp[Xv5,List.range_succ]
theorem Yef (h:W8)(w:List Nat)(hw:w.length=16)(n:Nat):(Xns h w n).2.length=16:=by
 induction n with
 |zero=>exact hw
 |succ n ih=>
  rw[Xeo];show(Xh0 _ n).length=16;unfold Xh0;split;·exact ih
  rw[List.length_set];exact ih
theorem Ye7 (b:List Nat)(n:Nat):(Xx2 b n).length=16:=by
 induction n with
 |zero=>simp[Xx2]
 |succ n ih=>rw[Xkj,Xp1,List.length_set,ih]
theorem Ykp (a b c d:Nat):Xba d (Xba (Xba c a) b)=Xba (Xba (Xba a b) c) d:=by unfold Xba;omega
theorem Xzt (h:W8)(w:List Nat):(Xns h w 0).2=w:=rfl
theorem Yk3 {b:List Nat}(hl:b.length=64)(hb:∀x∈b,x<256)(h:W8)(n:Nat)(hn:n≤64):∀t,t<max n 16→max n 16≤t+16→(Xns h (ldF b) n).2.getD (t%16) 0=(Xnj b).getD t 0:=by
 induction n with
 |zero=>
  intro t d f;have c:t<16:=by omega
  rw[Xzt,Nat.mod_eq_of_lt c,Yg4 b (by omega),Xt1,qP c];exact Yl3 hl hb t c
 |succ n a=>
  intro t d f;have a:=a (by omega);rw[Xeo];show(Xh0 _ n).getD (t%16) 0=_;unfold Xh0;by_cases hn16:n<16;·rw[qP hn16];exact a t (by omega) (by omega)
  rw[qN hn16,Xhl (by rw[Yef h (ldF b) (Ye7 b 64)];omega)];by_cases htn:t=n;·subst htn;rw[qP rfl,Yg4 b (by omega),Xt1,qN hn16];unfold Ynl;rw[a (t-15) (by omega) (by omega),a (t-2) (by omega) (by omega),a (t-7) (by omega) (by omega)];have e:=a (t-16) (by omega) (by omega);rw[show(t-16)%16=t%16 by omega] at e;rw[e];exact Ykp _ _ _ _
  rw[qN (by omega)];exact a t (by omega) (by omega)
theorem Yld {b:List Nat}(hl:b.length=64)(hb:∀x∈b,x<256)(h:W8)(n:Nat)(hn:n≤64):(Xns h (ldF b) n).1=Xv5 (Xnj b) h n:=by
 induction n with
 |zero=>rfl
 |succ n ih=>have w:=Yk3 hl hb h (n+1) hn n (by omega) (by omega);rw[Xeo,Xj7,←ih (by omega),←w,Xeo];rfl
theorem Yiu {b:List Nat}(hl:b.length=64)(hb:∀x∈b,x<256)(h:W8):Xgy h (ldF b)=Xgz h (Xv5 (Xnj b) h 64):=by unfold Xgy;rw[Yld hl hb h 64 (zL _)]
theorem Xav {P:Program}{w:World}{ops:Array Oper}{rest:List Oper}{o:Oper}{a:Act}{Q:Exit→Act→World→Prop}(hgd:o.guard=none)(sl x:Operand)(t u:TypeId) (ho:o.op=.call {callee:=.builtin .append,args:=#[sl,x],argTypes:=#[t,u]}) (v y:Value) (hs:a.eval sl=v) (hx:a.eval x=y) (v':Value) (w':World) (hr:(Builtin.append_ #[t,u] o.type #[v,y]).run P w=.ok v' w') (h:wpList P ops Q rest (a.put o.dst v') w'):wpList P ops Q (o::rest) a w:=by refine wpList_plain hgd fun K hK=>?_;unfold Oper.wp execOp;simp only[ho,resolve,invoke,builtin,Sem.run_bind,Sem.run_pure,Result.andThen_ok,List.map_toArray,List.map_cons,List.map_nil,hs,hx,hr];exact hK _ _ h
theorem Xs6 {B:Nat}{w:World}{v:Value}{xs:List Nat}(h:OW B xs v w)(hB:B≤w.heap.size)(hl:xs.length≤20000000)(b:Nat)(ty:TypeId):∃v' w',(Builtin.append_ #[82,82] ty #[v,.slice (some ⟨w.heap.size,0,none⟩) 1 1]).run prog (w.alloc (.cells #[.int .u8 (b:Int)] 5))=.ok v' w'∧OW B (xs++[b]) v' w'∧(∀w0,Below B w0 w→Below B w0 w'):=by
 obtain⟨p,d,f,i,j⟩:=info_parts Xgl;have n:∃a c,v=.slice a xs.length c:=by
  rcases h.2 with⟨rfl,e⟩|⟨g,c,cur,e,_⟩;·exact⟨none,0,by rw[e]⟩
  exact⟨_,c,e⟩
 have o:OW B xs v (w.alloc (.cells #[.int .u8 (b:Int)] 5)):=h.alloc _;obtain⟨v',w',k,l,m,_⟩:=run_append_own (P:=prog) (w.alloc (.cells #[.int .u8 (b:Int)] 5)) B 82 ty 5 p (.int .u8 0) 1 1 underlying82 d f i j rfl (by decide) v xs.length (xs.map U) o ⟨w.heap.size,0,none⟩ 1 1 [.int .u8 (b:Int)] rfl (World.news_of_block (cs:=#[.int .u8 (b:Int)]) (t:=5) (fr:=(0,0)) (zN w _)) (by simp[Value.oneCell']) (by unfold maxLen;omega) (by omega) (by simp;omega);exact⟨v',w',k,OW.app (ys:=[b]) rfl rfl l,fun w0 hb=>Xey hb hB (zL _) h m⟩
theorem Xhu {B:Nat}{w:World}{v:Value}{xs:List Nat}(h:OW B xs v w)(hB:B≤w.heap.size)(hl:xs.length≤20000000){a:Option Addr}{l:List Nat}(hr:Rd w a l)(hll:l.length≤20000000)(f:0<l.length∨0<xs.length∨∃g,v=.slice (some ⟨g,0,none⟩) 0 0)(cap:Nat)(ty:TypeId):∃v' w',(Builtin.append_ #[82,82] ty #[v,.slice a l.length cap]).run prog w=.ok v' w'∧OW B (xs++l) v' w'∧(∀w0,Below B w0 w→Below B w0 w'):=by
 obtain⟨z,d,n,o,p⟩:=info_parts Xgl;by_cases h0:0<l.length
 ·obtain⟨b,off,rfl,t,x⟩:=hr.at_ h0;obtain⟨v',w',q,r,s,_⟩:=run_append_own (P:=prog) w B 82 ty 5 z (.int .u8 0) 1 1 underlying82 d n o p rfl (by decide) v xs.length (xs.map U) h ⟨b,off,none⟩ l.length cap (l.map U) (by simp) (fun j u hu=>by
   rw[List.getElem?_map] at hu;have m:j<l.length:=by
    by_cases m:j<l.length;·exact m
    rw[List.getElem?_eq_none (by omega)] at hu;cases hu
   rw[List.getElem?_eq_getElem m] at hu;rw[Addr.add_mid,x j m];exact hu) (fun u hu=>by obtain⟨y,_,rfl⟩:=List.mem_map.1 hu;rfl) (by unfold maxLen;omega) (by omega) hB
  exact⟨v',w',q,OW.app rfl rfl r,fun w0 hb=>Below.grown hb s (by have:=hb.size;omega) (fun k hk=>(h.lt k hk).1)⟩
 have e:l=[]:=List.length_eq_zero_iff.1 (by omega);subst e;refine⟨v,w,?_,by rw[List.append_nil];exact h,fun _ hb=>hb⟩;rcases f with f|f|⟨g,rfl⟩;·omega
 ·obtain⟨g,c,rfl,i,_⟩:=h.slice f
  cases a with
  |none=>simp[Builtin.append_,run_underlying (P:=prog) underlying82,sizeOf,typeInfo,d,Builtin.lenOf,Builtin.firstCells,loadCells,storeCells,i]
  |some ad=>simp[Builtin.append_,run_underlying (P:=prog) underlying82,sizeOf,typeInfo,d,Builtin.lenOf,Builtin.firstCells,loadCells,loadCellsFrom,storeCells,i]
 cases a with
 |none=>simp[Builtin.append_,run_underlying (P:=prog) underlying82,sizeOf,typeInfo,d,Builtin.lenOf,Builtin.firstCells,loadCells,loadCellsFrom,storeCells]
 |some ad=>simp[Builtin.append_,run_underlying (P:=prog) underlying82,sizeOf,typeInfo,d,Builtin.lenOf,Builtin.firstCells,loadCells,loadCellsFrom,storeCells]
theorem Xdg (w:World)(x:Nat)(hx:x<4294967296)(m:Nat)(hm:1≤m)(hm2:m<32)(k:Int)(hk:k=(m:Int)):Calls prog 112 #[.int .u32 (x:Int),.int .i64 k] w fun e w'=>e=.returned (.int .u32 ((rot x m:Nat):Int))∧∃n,w'=w.drewN n:=by
 subst hk;have l:IntKind.i64.wrap (32-(m:Int))=((32-m:Nat):Int):=by rw[IntWalk.i64_in _ (by omega)];omega
 obtain⟨r,a⟩:=xq (32-m);rw[←a] at l;have i:r≤31:=by omega
 have f:(0:Int)≤(m:Int):=by omega
 have h:(0:Int)≤(r:Int):=by omega
 have b:=Hd a;have g:(m:Int)<32:=by omega
 have j:(r:Int)<32:=by omega
 clear a;go_enter func112,ntmps112;go_wp2_with fail;go_quiet (fail);go_wp2_with fail;go_ret;refine⟨?_,nq,rfl⟩;have c:((x:Int)*2^r%4294967296)=((x*2^r%4294967296:Nat):Int):=by rw[Int.natCast_emod,Int.natCast_mul,Int.natCast_pow];rfl
 have d:((x:Int)/2^m)=((x/2^m:Nat):Int):=by rw[Int.natCast_ediv,Int.natCast_pow];rfl
 show Ending.returned (.int .u32 (bits .or .u32 ((x:Int)/2^m) ((x:Int)*2^r%4294967296)))=_;rw[c,d,u32_or_nat _ _ (Nat.lt_of_le_of_lt (Nat.div_le_self _ _) hx) (by omega),Nat.or_comm,b.o];rfl
theorem Xon {B:Nat}{w:World}{v:Value}{xs:List Nat}(h:OW B xs v w)(hB:B≤w.heap.size)(hl:xs.length≤20000000)(z:Int)(b:Nat)(hz:z=(b:Int))(ty:TypeId):∃v' w',(Builtin.append_ #[82,82] ty #[v,.slice (some ⟨w.heap.size,0,none⟩) 1 1]).run prog (w.alloc (.cells #[.int .u8 z] 5))=.ok v' w'∧OW B (xs++[b]) v' w'∧(∀w0,Below B w0 w→Below B w0 w'):=by subst hz;exact Xs6 h hB hl b ty
theorem Yeh (l:List Nat)(j:Nat):l++128::List.replicate (j+1) 0=(l++128::List.replicate j 0)++[0]:=by rw[Xpm,List.append_assoc]
theorem Ydx (w:World)(a:Option Addr)(cap:Nat)(l:List Nat)(G:Rd w a l)(hl:l.length≤10000000):Calls prog 110 #[.slice a l.length cap] w fun e w'=>∃v,e=.returned v∧OW w.heap.size (pdF l) v w'∧Bw w w':=by
 obtain⟨n,L⟩:=xq l.length;obtain⟨w1,p⟩:=xq (w.alloc (.cells #[] 5));have O1:OW w.heap.size [] (.slice (some ⟨w.heap.size,0,none⟩) 0 0) w1:=by rw[p];exact⟨rfl,.inr ⟨w.heap.size,0,#[],rfl,zL _,heap_alloc_last w _,zL _,by decide,rfl,rfl⟩⟩
 have J:Bw w w1:=by rw[p];exact(zR _ _).alloc (zL _) _
 obtain⟨v2,w2,z,W,b2⟩:=Xhu O1 J.size (by simp) (G.onB J) (by omega) (.inr (.inr ⟨_,rfl⟩)) cap 82;rw[List.nil_append] at W;have x:=b2 _ J;obtain⟨v3,w3,r3,o3,b3⟩:=Xon W x.size (by omega) 128 128 rfl 82;have Z:=b3 _ x;have S:=Hd z;have R3:=Hd r3;have B:=Hd p;have O3:Hid (OW w.heap.size (l++128::List.replicate 0 0) v3 w3):=Hd o3;have A:=Hd Z;rw[←L] at S;have aJ:n≤10000000:=by omega
 obtain⟨P,T⟩:=xq (Yhd n);have E:P=(119-n%64)%64:=T;have Q:=Hd L;have HP:=Hd T;rw[←L];clear p O1 J z W b2 x r3 o3 b3 Z G hl L T;go_enter func110,ntmps110;go_wp2_with (at_builtin;first
  |(rw[←B.o];refine Xav rfl _ _ _ _ rfl _ _ rfl rfl _ _ S.o ?_)
  |(refine Xav rfl _ _ _ _ rfl _ _ rfl rfl _ _ R3.o ?_))
 clear S R3 B;go_loopg [3] P (fun k v wr=>∃j:Nat,j≤P∧k=P-j∧Hid (OW w.heap.size (l++128::List.replicate j 0) v wr)∧Hid (Bw w wr));exact⟨0,by omega,rfl,O3,A⟩;clear O3 A;obtain⟨j,hj,rfl,f,d⟩:=hrel;obtain⟨m,hm⟩:=xq (n+1+j);have b:(l++128::List.replicate j 0:List Nat).length=m:=by rw[List.length_append,←Q.o];simp;omega
 obtain⟨g,c,rfl,s,U,aD,aF⟩:=f.o.slice (by rw[b];omega);rw[b] at s⊢;have aI:1≤m:=by omega
 have t:m≤10000100:=by omega
 unfold maxLen at U;obtain⟨r,G⟩:=xq (m%64);have jt:(m:Int).tmod 64=(r:Int):=by rw[Int.tmod_eq_emod_of_nonneg (by omega)];omega
 have je:(m:Int)%64=(r:Int):=by omega
 by_cases hlt:j<P
 ·have aK:((r:Int) !=56)=true:=by
   have:r≠56:=by omega
   simpa using(by omega:¬((r:Int)=56))
  obtain⟨X,Y,u,I,D⟩:=Xon f.o d.o.size (by rw[b];omega) 0 0 rfl 82;rw[b] at u;have K:=Hd u;have R:Hid (OW w.heap.size (l++128::List.replicate (j+1) 0) X Y):=Hd (by rw[Yeh];exact I);have M:=Hd (D _ d.o);clear u I D G hm E b s;go_wp2_with (at_builtin;refine Xav rfl _ _ _ _ rfl _ _ rfl rfl _ _ K.o ?_)
  go_roundg (P-(j+1));exact⟨j+1,by omega,rfl,R,M⟩;omega
 obtain rfl:j=P:=by omega
 have he:((r:Int) !=56)=false:=by
  have:r=56:=by omega
  rw[this];rfl
 have O2:Hid (OW w.heap.size (l++Xln n 0) (.slice (some ⟨g,0,none⟩) m c) wr):=Hd (by have:=f.o;rw[b] at this;rw[Yhc,←HP.o];exact this);have x:=Hd d.o;obtain⟨C,hC⟩:=xq (n*8);have eC:((n:Int)*8)%18446744073709551616=(C:Int):=by omega
 have aC:((n:Int)*8)=(C:Int):=by omega
 have aE:C≤800000000:=by omega
 have aM:(n:Int)%18446744073709551616=(n:Int):=by omega
 have O:=Hd hC;have h:Hid (∀q,(l++Xln n q).length=m+q):=Hd (fun q=>by rw[List.length_append,←Q.o];unfold Xln;rw[←HP.o];simp;omega);clear G hm E b s f d hC;go_wp2_with fail;go_loopg [3,5] 8 (fun k v i wq=>∃q:Nat,q≤8∧k=8-q∧i=.int .i64 (7-(q:Int))∧Hid (OW w.heap.size (l++Xln n q) v wq)∧Hid (Bw w wq));exact⟨0,by omega,rfl,rfl,O2,x⟩;clear O2 x he jt je;obtain⟨q,hq,rfl,rfl,f,d⟩:=hrel;by_cases hq8:q<8
 ·obtain⟨g2,c2,rfl,F,aA,_⟩:=f.o.slice (by rw[h.o];omega);rw[h.o] at F⊢;obtain⟨z,H⟩:=xq (56-8*q);have aB:8*((7:Int)-(q:Int))=(z:Int):=by omega
  obtain⟨y,V⟩:=xq (Yj3 n q);have YI:(C:Int)/2^z%256=((y:Nat):Int):=by rw[V,Yj3,show 8*n=C by rw[O.o];omega,←H,show C%18446744073709551616=C from Nat.mod_eq_of_lt (by omega),Int.natCast_emod,Int.natCast_ediv,Int.natCast_pow];rfl
  obtain⟨X,Y,u,I,D⟩:=Xon f.o d.o.size (by rw[h.o];omega) _ y YI 82;rw[h.o] at u;have K:=Hd u;have R:Hid (OW w.heap.size (l++Xln n (q+1)) X Y):=Hd (by rw[Xpu,←V,←List.append_assoc];exact I);have M:=Hd (D _ d.o);obtain⟨m2,t⟩:=xq (m+q);rw[←t] at K⊢;have aG:¬((7:Int)-(q:Int)<0):=by omega
  have aH:(0:Int)≤7-(q:Int):=by omega
  have aL:z<64:=by omega
  clear H V t f d u I D YI;go_wp2_with (at_builtin;refine Xav rfl _ _ _ _ rfl _ _ rfl rfl _ _ K.o ?_)
  go_roundg (8-(q+1));exact⟨q+1,by omega,rfl,by go_num,R,M⟩;omega
 obtain rfl:q=8:=by omega
 have N:Hid (OW w.heap.size (pdF l) u3 wr):=Hd (by have:=f.o;rw[Xpv] at this;unfold pdF;rw[←Q.o];exact this);have BF:=Hd d.o;clear f d;go_wp2_with fail;go_ret;exact⟨_,rfl,N.o,BF.o⟩
theorem take_set (l:List Nat)(n j:Nat)(hj:j<n)(hl:n≤l.length)(x:Nat)(hx:x=l.getD j 0):(l.take j++List.replicate (n-j) 0).set j x=l.take (j+1)++List.replicate (n-(j+1)) 0:=by
 obtain⟨m,a⟩:∃m,n-j=m+1:=⟨n-j-1,by omega⟩
 have e:(l.take j).length=j:=by rw[List.length_take];omega
 rw[a,show n-(j+1)=m by omega,List.replicate_succ,List.set_append_right _ _ (by omega),e,Nat.sub_self,List.take_succ_eq_append_getElem (by omega),List.append_assoc,hx];rw[List.getD_eq_getElem?_getD,List.getElem?_eq_getElem (by omega)];rfl
theorem Xam:(prog.info? 22).map (·.size)=some 16:=by kernel_rfl
theorem IB.load {w:World}{b:Nat}{T:TypeId}{l:List Nat}(h:IB w b T l){n:Nat}{e:TypeId}(hu:prog.underlying T=some (.array n e))(hs:(prog.info? T).map (·.size)=some l.length):(loadVar T ⟨b,0,none⟩).run prog w=.ok (.agg (idA l)) w:=
 run_loadVar_row w b _ T _ _ _ h hu rfl (by rw[Xaf];exact hs)
theorem IB.loadTake {w:World}{b:Nat}{T:TypeId}{l:List Nat}(h:IB w b T l)(hl:16≤l.length):Ld 22 ⟨b,0,none⟩ w (.agg (idA (l.take 16))):=
 Xai w b 0 22 _ _ underlying22 rfl (by rw[Xaf,List.length_take,Nat.min_eq_left hl];exact Xam) (fun j u hu=>by
  rw[cell_of_row w b (0+j) _ _ _ h,Nat.zero_add];unfold idA at hu⊢;rw[List.getElem?_toArray,List.getElem?_map,List.getElem?_take] at hu;rw[List.getElem?_toArray,List.getElem?_map];split at hu;·exact hu
  cases hu)
theorem IB.store {w:World}{b:Nat}{T:TypeId}{l:List Nat}(h:IB w b T l)(m:List Nat)(hm:m.length=l.length)(hs:(prog.info? T).map (·.size)=some l.length):(storeVar T ⟨b,0,none⟩ (.agg (idA m))).run prog w=.ok () (w.setRow b (idA m))∧IB (w.setRow b (idA m)) b T m:=
 ⟨run_storeVar_row w b _ T _ _ h (by rw[Xaf,hm];exact hs) (by rw[Xaf,Xaf,hm]) (Xeh _),setRow_heap w _ _ _ _ _ h⟩
def zz16:List Value:=[.int .u8 0,.int .u8 0,.int .u8 0,.int .u8 0,.int .u8 0,.int .u8 0,.int .u8 0,.int .u8 0,.int .u8 0,.int .u8 0,.int .u8 0,.int .u8 0,.int .u8 0,.int .u8 0,.int .u8 0,.int .u8 0]
theorem Xm5:zz16.toArray=idA (List.replicate 16 0):=rfl
theorem Ygc (w:World){l:List Nat}(hl:IdOk l):zJ 15 #[.agg (idA l)] w (.agg (idA (l.take 16))):=by
 obtain⟨cs,c⟩:=xq (idA l);obtain⟨q,d⟩:=xq (idA (l.take 16));obtain⟨w0,a⟩:=xq ((w.alloc (.cells cs 26)).alloc (.cells zz16.toArray 22));have f:Bw w w0:=by rw[a];exact((zR _ _).alloc (zL _) _).alloc (by simp) _
 have i:IB w0 w.heap.size 26 l:=by unfold IB;rw[a,c];exact Xad (heap_alloc_last w _)
 have j:IB w0 (w.heap.size+1) 22 (List.replicate 16 0):=by unfold IB;rw[a,←Xm5];have:=heap_alloc_last (w.alloc (.cells cs 26)) (.cells zz16.toArray 22);rw[World.size_alloc] at this;exact this
 have b:(l.take 16).length=16:=by rw[List.length_take,hl.len];rfl
 have k:=Hd (i.loadTake (by rw[hl.len];omega));obtain⟨st,e⟩:=j.store (l.take 16) (by rw[b];simp) (by rw[List.length_replicate];exact Xam);have g:=Hd (below_setRow f (Nat.le_succ _) (idA (l.take 16)));have p:Hid ((prog.info? 22).map (·.size)=some q.size):=Hd (by rw[d,Xaf,b];exact Xam);unfold IB at e;rw[←d] at k st e g⊢;have n:=Hd st;have m:=Hd e;unfold zz16 at a;have h:=Hd a;rw[←c];have r:(Instr.arrayAt 22 (.slice (some ⟨w.heap.size,0,none⟩) 16 32)).run prog w0=.ok (.pointer (some ⟨w.heap.size,0,none⟩)) w0:=by simp[Instr.arrayAt,run_underlying (P:=prog) underlying22]
 clear a c d f i j st e b hl;go_enter func15,ntmps15;go_upto_region 1 with fail;rw[←h.o];clear h;go_wp2_with (first
  |((with_reducible refine Xab 22 rfl _ rfl ?_);refine⟨_,_,rfl,k.o,?_⟩)
  |((with_reducible refine Xaa 22 rfl _ _ rfl ?_);refine⟨_,_,_,rfl,rfl,n.o,?_⟩))
 exact zP (results_cell_row results15 _ _ (w.heap.size+1) _ _ _ _ rfl m.o underlying22 rfl p.o) rfl ⟨rfl,g.o⟩
theorem Xv9 (w:World){l:List Nat}(hl:IdOk l):zJ 16 #[.agg (idA l)] w (.agg (idA (l.take 16))):=by
 obtain⟨cs,d⟩:=xq (idA l);obtain⟨w0,a⟩:=xq (((w.alloc (.cells cs 26)).alloc (.cells zz16.toArray 22)).alloc (.cells zz16.toArray 22));have y:Bw w w0:=by rw[a];exact(((zR _ _).alloc (zL _) _).alloc (by simp) _).alloc (by simp;omega) _
 have B:IB w0 w.heap.size 26 l:=by unfold IB;rw[a,d];exact Xad (Xad (heap_alloc_last w _))
 have C:IB w0 (w.heap.size+1) 22 (List.replicate 16 0):=by unfold IB;rw[a,←Xm5];have:=heap_alloc_last (w.alloc (.cells cs 26)) (.cells zz16.toArray 22);rw[World.size_alloc] at this;exact Xad this
 have D:IB w0 (w.heap.size+2) 22 (List.replicate 16 0):=by unfold IB;rw[a,←Xm5];have:=heap_alloc_last ((w.alloc (.cells cs 26)).alloc (.cells zz16.toArray 22)) (.cells zz16.toArray 22);rw[World.size_alloc,World.size_alloc] at this;exact this
 unfold zz16 at a;have A:=Hd a;have g:=Hd hl;rw[←d];clear a d hl;go_enter func16,ntmps16;go_upto_region 2 with fail;rw[show w.heap.size+1+1=w.heap.size+2 from rfl,←A.o];clear A;have E:=Hd B;have F:=Hd C;have G:Hid (IB w0 (w.heap.size+2) 22 (l.take 0++List.replicate (16-0) 0)):=Hd D;have H:=Hd y;clear B C D y;go_wp2_with fail;go_loopg [4] 16 (fun k i wr=>∃j:Nat,j≤16∧k=16-j∧i=.int .i64 (j:Int)∧Hid (IB wr w.heap.size 26 l)∧Hid (IB wr (w.heap.size+1) 22 (List.replicate 16 0))∧Hid (IB wr (w.heap.size+2) 22 (l.take j++List.replicate (16-j) 0))∧Hid (Bw w wr));exact⟨0,by omega,rfl,rfl,E,F,G,H⟩;clear E F G H;obtain⟨j,T,rfl,rfl,n,q,f,m⟩:=hrel;by_cases h:j<16
 ·obtain⟨x,t⟩:=xq (l.getD j 0);have S:wr.cell? ⟨w.heap.size,j,none⟩=some (.int .u8 ((x:Nat):Int)):=by rw[t];exact n.o.cell (by rw[g.o.len];omega)
  have fr:wr.frozen? ⟨w.heap.size+2,j,none⟩=false:=Xby f.o j;have Q:∃u,wr.cell? ⟨w.heap.size+2,j,none⟩=some u:=⟨_,f.o.cell (by rw[List.length_append,List.length_take,List.length_replicate,g.o.len];omega)⟩
  obtain⟨u,R⟩:=Q;have K:Hid (IB (wr.setCell ⟨w.heap.size+2,j,none⟩ (.int .u8 ((x:Nat):Int))) w.heap.size 26 l):=Hd (n.o.setC j _ (by omega));have L:Hid (IB (wr.setCell ⟨w.heap.size+2,j,none⟩ (.int .u8 ((x:Nat):Int))) (w.heap.size+1) 22 (List.replicate 16 0)):=Hd (q.o.setC j _ (by omega));have M:Hid (IB (wr.setCell ⟨w.heap.size+2,j,none⟩ (.int .u8 ((x:Nat):Int))) (w.heap.size+2) 22 (l.take (j+1)++List.replicate (16-(j+1)) 0)):=Hd (by rw[←take_set l 16 j h (by rw[g.o.len];omega) x t];exact f.o.set j x);have NB:Hid (Bw w (wr.setCell ⟨w.heap.size+2,j,none⟩ (.int .u8 ((x:Nat):Int)))):=Hd (m.o.setCell (p:=⟨w.heap.size+2,j,none⟩) (Nat.le_add_right _ 2) _);clear n q f m t;go_wp2_with fail;go_roundg (16-(j+1));exact⟨j+1,by omega,rfl,by go_num,K,L,M,NB⟩;omega
 obtain rfl:j=16:=by omega
 have e:l.take 16++List.replicate (16-16) 0=l.take 16:=by simp
 have b:(l.take 16).length=16:=by rw[List.length_take,g.o.len];rfl
 have v:=f.o;rw[e] at v;have I:=Hd (v.load underlying22 (by rw[b];exact Xam));obtain⟨st,r⟩:=q.o.store (l.take 16) (by rw[b];simp) (by rw[List.length_replicate];exact Xam);have z:=Hd (below_setRow m.o (Nat.le_succ _) (idA (l.take 16)));obtain⟨P,c⟩:=xq (idA (l.take 16));have O:Hid ((prog.info? 22).map (·.size)=some P.size):=Hd (by rw[c,Xaf,b];exact Xam);unfold IB at r;rw[←c] at I st r z;have s:=Hd c;have N:=Hd st;have J:=Hd r;clear c st r v e b n q f m;go_wp2_with (first
  |((with_reducible refine Xab 22 rfl _ rfl ?_);refine⟨_,_,rfl,I.o,?_⟩)
  |((with_reducible refine Xaa 22 rfl _ _ rfl ?_);refine⟨_,_,_,rfl,rfl,N.o,?_⟩))
 exact zP (results_cell_row results16 _ _ (w.heap.size+1) _ _ _ _ rfl J.o underlying22 rfl O.o) rfl ⟨by rw[s.o],z.o⟩
def Xfg (l:List Nat):List Nat:=(Xfn l).take 16
def hdF (t n:Nat):List Nat:=[t,0,0,0,n]
def stF (leaf chain step:Nat)(v:List Nat):List Nat:=Xfg (hdF 3 leaf++[chain,step]++v)
def Ycw (leaf chain:Nat):Nat→Nat→List Nat→List Nat
 |0,_,v=>v
 |k+1,s,v=>Ycw leaf chain k (s+1) (stF leaf chain s v)
def Xx3:List Nat→List Nat
 |[]=>[]
 |c::l=>c/16::c%16::Xx3 l
def Xhy:List Nat→Nat
 |[]=>0
 |c::l=>(15-c/16)+(15-c%16)+Xhy l
def Xdt (d:List Nat):List Nat:=Xx3 d++[Xhy d/256,Xhy d/16%16,Xhy d%16]
def nth (s:List Nat)(j:Nat):List Nat:=(s.drop (16*j)).take 16
def Yc6 (leaf:Nat)(d s:List Nat)(j:Nat):List Nat:=Ycw leaf j (15-(Xdt d).getD j 0) ((Xdt d).getD j 0) (nth s j)
def Xdi (leaf:Nat)(d s:List Nat):Nat→List Nat
 |0=>[]
 |j+1=>Xdi leaf d s j++Yc6 leaf d s j
def Yf8 (leaf:Nat)(ends:List Nat):List Nat:=Xfg (hdF 4 leaf++ends)
def Xg0 (n:Nat)(b:List Nat):List Nat:=Xfg (hdF 0 n++b)
def Xg3 (level:Nat)(l r:List Nat):List Nat:=Xfg ([1,level]++l++r)
def Xxo (n:Nat):Nat→List Nat→List (List Nat)→List Nat
 |_,node,[]=>node
 |level,node,p::ps=>Xxo n (level+1) (if n/2^level%2=1 then Xg3 (level+1) p node else Xg3 (level+1) node p) ps
def Xge (leaf:Nat)(d s:List Nat):List Nat:=Yf8 leaf (Xdi leaf d s 35)
def Xpg (leaf:Nat)(d s:List Nat)(path:List (List Nat)):List Nat:=Xxo leaf 0 (Xg0 leaf (Xge leaf d s)) path
def sgF (leaf:Int)(n:Nat):Nat:=if n<1∨8<n∨leaf<0∨(2^n:Nat)≤leaf then 2 else 0
def Yh4 (height:Int)(root d:List Nat)(leaf:Int)(s:List Nat)(path:List (List Nat)):Nat:=
 if height<1∨8<height then 2 else if sgF leaf path.length≠0 then 2 else if(path.length:Int)≠height∨Xpg leaf.toNat d s path≠root then 17 else 0
def vfF (c:Cont)(id:List Nat)(k:Nat)(leaf:Int)(s:List Nat)(path:List (List Nat)):Nat:=
 if k≠0 then k else if sgF leaf path.length≠0 then 2 else if leaf≠c.leaf then 17 else Yh4 c.height c.root (id.take 16) leaf s path
theorem Ymq {l:List Nat}:∀x∈Xfn l,x<256:=by
 intro x a;have:∀v:W8,∀x∈dgF v,x<256:=by intro v x a;unfold dgF at a;obtain⟨y,_,b⟩:=List.mem_flatMap.1 a;obtain⟨k,_,rfl⟩:=List.mem_map.1 b;exact Nat.mod_lt _ (by decide)
 exact this _ x a
theorem Xe4 (l:List Nat):(Xfn l).length=32:=by have:∀v:W8,(dgF v).length=32:=fun v=>rfl;exact this _
theorem Xbf (l:List Nat):B16 (Xfg l):=⟨by unfold Xfg;rw[List.length_take,Xe4];rfl,fun x hx=>Ymq x (List.mem_of_mem_take hx)⟩
theorem Xm2 (leaf chain:Nat):∀(k s:Nat) (v:List Nat),B16 v→B16 (Ycw leaf chain k s v)
 |0,_,_,h=>h
 |k+1,s,v,_=>Xm2 leaf chain k (s+1) _ (Xbf _)
theorem Xhq:∀d:List Nat,(Xx3 d).length=2*d.length
 |[]=>rfl
 |c::l=>by rw[Xx3,List.length_cons,List.length_cons,Xhq l,List.length_cons];omega
theorem Xu5 (c:Nat):∀d:List Nat,Xx3 (d++[c])=Xx3 d++[c/16,c%16]
 |[]=>rfl
 |x::l=>by rw[List.cons_append,Xx3,Xx3,Xu5 c l];rfl
theorem Xtm (c:Nat):∀d:List Nat,Xhy (d++[c])=Xhy d+((15-c/16)+(15-c%16))
 |[]=>by simp[Xhy]
 |x::l=>by rw[List.cons_append,Xhy,Xhy,Xtm c l];omega
theorem Xh1:∀d:List Nat,Xhy d≤30*d.length
 |[]=>zL _
 |c::l=>by have:=Xh1 l;rw[Xhy,List.length_cons];omega
theorem Ybt:∀d:List Nat,(∀x∈d,x<256)→∀x∈Xx3 d,x≤15
 |[],_,x,a=>by cases a
 |c::l,h,x,a=>by
  have b:=h c (List.mem_cons_self ..);rw[Xx3] at a;rcases List.mem_cons.1 a with rfl|a;·omega
  rcases List.mem_cons.1 a with rfl|a;·omega
  exact Ybt l (fun y hy=>h y (List.mem_cons_of_mem _ hy)) x a
theorem Xjc {d:List Nat}(h:B16 d):(Xdt d).length=35:=by unfold Xdt;rw[List.length_append,Xhq,h.len];rfl
theorem Yid {d:List Nat}(h:B16 d):∀x∈Xdt d,x≤15:=by
 intro x a;have s:=Xh1 d;rw[h.len] at s;unfold Xdt at a;rcases List.mem_append.1 a with a|a;·exact Ybt d h.lt x a
 simp only[List.mem_cons,List.not_mem_nil,or_false] at a;omega
theorem Xyv {d:List Nat}(h:B16 d)(j:Nat):(Xdt d).getD j 0≤15:=by
 by_cases hj:j<(Xdt d).length;·rw[List.getD_eq_getElem?_getD,List.getElem?_eq_getElem hj];exact Yid h _ (zG hj)
 rw[List.getD_eq_getElem?_getD,List.getElem?_eq_none (by omega)];exact Nat.zero_le _
theorem Xme {s:List Nat}{n j:Nat}(hl:s.length=16*n)(hx:∀x∈s,x<256)(hj:j<n):B16 (nth s j):=
 ⟨by unfold nth;rw[List.length_take,List.length_drop,hl];omega,fun x hx'=>hx x (List.mem_of_mem_drop (List.mem_of_mem_take hx'))⟩
theorem Xhm {leaf:Nat}{d s:List Nat}{n:Nat}(hl:s.length=16*n)(hx:∀x∈s,x<256):∀j,j≤n→(Xdi leaf d s j).length=16*j∧∀x∈Xdi leaf d s j,x<256
 |0,_=>⟨rfl,fun x hx=>by cases hx⟩
 |j+1,h=>by
  obtain⟨b,c⟩:=Xhm (leaf:=leaf) (d:=d) hl hx j (by omega);have a:=Xm2 leaf j (15-(Xdt d).getD j 0) ((Xdt d).getD j 0) _ (Xme hl hx (j:=j) (by omega));refine⟨?_,fun x hx'=>?_⟩;·rw[Xdi,List.length_append,b];unfold Yc6;rw[a.len];omega
  rw[Xdi] at hx';rcases List.mem_append.1 hx' with h|h;·exact c x h
  exact a.lt x h
theorem Xn2 (n:Nat)(b:List Nat):B16 (Xg0 n b):=Xbf _
theorem Xkq (l:Nat)(a b:List Nat):B16 (Xg3 l a b):=Xbf _
theorem Xmx (n:Nat):∀(ps:List (List Nat)) (level:Nat) (node:List Nat),B16 node→B16 (Xxo n level node ps)
 |[],_,_,h=>h
 |p::ps,level,node,_=>by
  rw[Xxo];refine Xmx n ps _ _ ?_;split;·exact Xbf _
  exact Xbf _
theorem Xj2:(prog.info? 273).map (·.size)=some 16:=by kernel_rfl
theorem Xa0:(prog.info? 227).map (·.size)=some 16:=by kernel_rfl
theorem IB.loadPart {w:World}{b:Nat}{T:TypeId}{l:List Nat}(h:IB w b T l)(T':TypeId){n n':Nat}{e:TypeId}(off:Nat)(hu:prog.underlying T'=some (.array n' e))(hs:(prog.info? T').map (·.size)=some n)(hn:off+n≤l.length):(loadVar T' ⟨b,off,none⟩).run prog w=.ok (.agg (idA ((l.drop off).take n))) w:=
 Xai w b off T' _ _ hu rfl (by rw[Xaf,List.length_take,List.length_drop,Nat.min_eq_left (by omega)];exact hs) (fun j u hu=>by
  rw[cell_of_row w b (off+j) _ _ _ h];unfold idA at hu⊢;rw[List.getElem?_toArray,List.getElem?_map,List.getElem?_take] at hu;rw[List.getElem?_toArray,List.getElem?_map];split at hu;·rw[List.getElem?_drop] at hu;exact hu
  cases hu)
theorem Xib (w:World)(T:TypeId)(l:List Nat)(zs:Array Value)(hz:zs.size=l.length)(hs:(prog.info? T).map (·.size)=some l.length):(storeVar T ⟨w.heap.size,0,none⟩ (.agg (idA l))).run prog (w.alloc (.cells zs T))=.ok () (w.alloc (.cells (idA l) T)):=
 run_storeVar_new w T zs (idA l) (by rw[Xaf];exact hs) (by rw[Xaf];exact hz) (Xeh _)
def Xm7:Array Value:=#[.int .u8 0,.int .u8 0,.int .u8 0,.int .u8 0,.int .u8 0,.int .u8 0,.int .u8 0,.int .u8 0,.int .u8 0,.int .u8 0,.int .u8 0,.int .u8 0,.int .u8 0,.int .u8 0,.int .u8 0,.int .u8 0,.int .u8 0,.int .u8 0,.int .u8 0,.int .u8 0,.int .u8 0,.int .u8 0,.int .u8 0,.int .u8 0,.int .u8 0,.int .u8 0,.int .u8 0,.int .u8 0,.int .u8 0,.int .u8 0,.int .u8 0,.int .u8 0]
theorem Xh6 (w w0:World)(T:TypeId)(hs:(prog.info? T).map (·.size)=some 16)(B:Bw w w0)(b:Nat)(hb:w.heap.size≤b)(h:IB w0 b T (List.replicate 16 0))(r:List Nat)(hr:r.length=16):∀wx,Bw w0 wx→(storeVar T ⟨b,0,none⟩ (.agg (idA r))).run prog wx=.ok () (wx.setRow b (idA r))∧(wx.setRow b (idA r)).heap[b]?=some (.cells (idA r) T (0,0))∧Bw w (wx.setRow b (idA r)):=fun wx hx=>by obtain⟨s,i⟩:=(h.below hx).store r (by rw[hr];simp) (by rw[List.length_replicate];exact hs);exact⟨s,i,below_setRow (bg B hx) hb _⟩
theorem Xbk (w:World)(T:TypeId):IB (w.alloc (.cells zz16.toArray T)) w.heap.size T (List.replicate 16 0):=by unfold IB;rw[←Xm5];exact heap_alloc_last w _
theorem Xjw (w:World)(a:Option Addr)(cap:Nat)(l:List Nat)(hr:Rd w a l)(hl:l.length≤10000000)(hcap:l.length≤cap)(hcm:cap≤maxLen)(hE:Env w):zJ 216 #[.slice a l.length cap] w (.agg (idA (Xfg l))):=by
 obtain⟨w0,b⟩:=xq (w.alloc (.cells zz16.toArray 273));have h:Bw w w0:=by rw[b];exact(zR _ _).alloc (zL _) _
 have k:=Hd (Xyy w0 a cap l (hr.onB h) hl hcap hcm (hE.on h));have d:=Hd (Xh6 w w0 273 Xj2 h w.heap.size (zL _) (by rw[b];exact Xbk w _) (Xfg l) (Xbf l).len);have c:Hid (∀w1,∃g,Sv 90 ⟨w1.heap.size,0,none⟩ (.agg (idA (Xfn l))) (w1.alloc (.cells Xm7 90)) g∧Bw w1 g∧Ld 273 ⟨w1.heap.size,0,none⟩ g (.agg (idA (Xfg l)))):=Hd (fun w1=>
  ⟨_,Xib w1 90 (Xfn l) Xm7 (by rw[Xe4];rfl) (by rw[Xe4];exact Xfm),(zR _ _).alloc (zL _) _,(show IB _ _ 90 (Xfn l) from heap_alloc_last w1 _).loadPart 273 (n:=16) 0 underlying273 Xj2 (by rw[Xe4];decide)⟩)
 obtain⟨G,j⟩:=xq (idA (Xfn l));obtain⟨E,f⟩:=xq (idA (Xfg l));have D:Hid ((prog.info? 273).map (·.size)=some E.size):=Hd (by rw[f,Xaf,(Xbf l).len];exact Xj2);rw[←j] at k c;rw[←f] at d c⊢;obtain⟨n,t⟩:=xq l.length;rw[←t] at k⊢;unfold zz16 at b;have p:=Hd b;have m:=Hd h;clear b h j f t hr hl hcap hcm hE;go_enter func216,ntmps216;go_upto_region 1 with fail;rw[←p.o];clear p;go_wp2_with fail;refine k.o.mono ?_;rintro e w1 ⟨rfl,i⟩;obtain⟨g,u,v,x⟩:=c.o w1;obtain⟨q,r,s⟩:=d.o g (bg i v);have B:=Hd u;have C:=Hd x;have y:=Hd q;have z:=Hd r;have A:=Hd s;have F:(Instr.arrayAt 273 (.slice (some ⟨w1.heap.size,0,none⟩) 16 32)).run prog g=.ok (.pointer (some ⟨w1.heap.size,0,none⟩)) g:=by simp[Instr.arrayAt,run_underlying (P:=prog) underlying273]
 clear u v x q r s i k c d m;go_wp2_with (first
  |((with_reducible refine Xab 273 rfl _ rfl ?_);refine⟨_,_,rfl,C.o,?_⟩)
  |((with_reducible refine Xaa 90 rfl _ _ rfl ?_);refine⟨_,_,_,rfl,rfl,B.o,?_⟩)
  |((with_reducible refine Xaa 273 rfl _ _ rfl ?_);refine⟨_,_,_,rfl,rfl,y.o,?_⟩))
 exact zP (results_cell_row results216 _ _ w.heap.size _ _ _ _ rfl z.o underlying273 rfl D.o) rfl ⟨rfl,A.o⟩
theorem Xjf (w:World)(l:List Nat)(hl:l.length≤1000):OW w.heap.size l (.slice (some ⟨w.heap.size,0,none⟩) l.length l.length) (w.alloc (.cells (l.map U).toArray 5)):=
 ⟨by simp,.inr ⟨w.heap.size,l.length,(l.map U).toArray,rfl,zL _,heap_alloc_last w _,zL _,by unfold maxLen;omega,by simp,by rw[Nat.mul_one];exact List.take_of_length_le (by simp)⟩⟩
theorem Xp5 (w:World)(t n:Nat)(hn:n<256):Calls prog 274 #[.int .u8 (t:Int),.int .i64 (n:Int)] w fun e w'=>∃v,e=.returned v∧OW w.heap.size (hdF t n) v w'∧Bw w w':=by
 have a:=Hd (Xjf w (hdF t n) (by simp[hdF]));have b:(n:Int)/16777216=0:=by omega
 have c:(n:Int)/65536=0:=by omega
 have d:(n:Int)/256=0:=by omega
 have f:IntKind.u8.wrap (n:Int)=(n:Int):=by rw[IntKind.wrap_u8];omega
 go_enter func274,ntmps274;go_wp2_with fail;go_ret;exact⟨_,rfl,a.o,(zR _ _).alloc (zL _) _⟩
theorem OW.rd {B:Nat}{xs:List Nat}{v:Value}{w:World}(h:OW B xs v w)(hx:∀x∈xs,x<256)(h0:0<xs.length):∃a c,v=.slice a xs.length c∧xs.length≤c∧c≤maxLen∧Rd w a xs:=by obtain⟨g,c,rfl,b,d,_⟩:=h.slice h0;exact⟨_,c,rfl,b,d,Yec h hx⟩
theorem Xuu (w:World)(v:Value)(l:List Nat)(B:Nat)(ho:OW B l v w)(hx:∀x∈l,x<256)(h0:0<l.length)(hl:l.length≤10000000)(hE:Env w):zJ 275 #[v] w (.agg (idA (Xfg l))):=by
 obtain⟨w0,b⟩:=xq (w.alloc (.cells zz16.toArray 22));have j:Bw w w0:=by rw[b];exact(zR _ _).alloc (zL _) _
 obtain⟨a,c,rfl,h,i,t⟩:=ho.rd hx h0;have k:=Hd (Xjw w0 a c l (t.onB j) hl h i (hE.on j));have d:=Hd (Xh6 w w0 22 Xam j w.heap.size (zL _) (by rw[b];exact Xbk w _) (Xfg l) (Xbf l).len);obtain⟨C,f⟩:=xq (idA (Xfg l));have A:Hid ((prog.info? 22).map (·.size)=some C.size):=Hd (by rw[f,Xaf,(Xbf l).len];exact Xam);rw[←f] at d k⊢;obtain⟨n,s⟩:=xq l.length;rw[←s] at k⊢;unfold zz16 at b;have m:=Hd b;clear b j f s t hl h i hE ho hx h0;go_enter func275,ntmps275;go_upto_region 1 with fail;rw[←m.o];clear m;go_wp2_with fail;refine k.o.mono ?_;rintro e w1 ⟨rfl,g⟩;obtain⟨p,q,r⟩:=d.o w1 g;have u:=Hd p;have y:=Hd q;have z:=Hd r;clear p q r g k d;go_wp2_with ((with_reducible refine Xaa 22 rfl _ _ rfl ?_);refine⟨_,_,_,rfl,rfl,u.o,?_⟩)
 exact zP (results_cell_row results275 _ _ w.heap.size _ _ _ _ rfl y.o underlying22 rfl A.o) rfl ⟨rfl,z.o⟩
theorem IB.rd {w:World}{b:Nat}{T:TypeId}{l:List Nat}(h:IB w b T l)(off n:Nat)(hn:off+n≤l.length)(hx:∀x∈l,x<256):Rd w (some ⟨b,off,none⟩) ((l.drop off).take n):=
 ⟨fun x hx'=>hx x (List.mem_of_mem_drop (List.mem_of_mem_take hx')),fun _=>⟨b,off,rfl,h.lt,fun i hi=>by rw[List.length_take,List.length_drop] at hi;rw[h.cell (q:=off+i) (by omega)];rw[List.getElem_take,List.getElem_drop,List.getD_eq_getElem?_getD,List.getElem?_eq_getElem (by omega)];rfl⟩⟩
theorem IB.rdAll {w:World}{b:Nat}{T:TypeId}{l:List Nat}(h:IB w b T l)(hx:∀x∈l,x<256):Rd w (some ⟨b,0,none⟩) l:=by have:=h.rd 0 l.length (by omega) hx;rwa [List.drop_zero,List.take_length] at this
theorem Xje (w:World)(l:List Nat)(hx:∀x∈l,x<256):Rd (w.alloc (.cells (l.map U).toArray 5)) (some ⟨w.heap.size,0,none⟩) l:=
 (show IB (w.alloc (.cells (l.map U).toArray 5)) w.heap.size 5 l from heap_alloc_last w _).rdAll hx
theorem Xo5 (leaf chain s:Nat)(u:List Nat):B16 (stF leaf chain s u):=Xbf _
theorem Yg1 (leaf chain s:Nat)(u:List Nat)(h1:leaf<256)(h2:chain<256)(h3:s<256)(hu:B16 u):(hdF 3 leaf++[chain,s]++u).length=23∧∀x∈hdF 3 leaf++[chain,s]++u,x<256:=by
 refine⟨by simp[hdF,hu.len],fun x hx=>?_⟩;rcases List.mem_append.1 hx with h|h;·simp[hdF] at h;omega
 exact hu.lt x h
theorem Xs9 (w:World)(leaf chain fr tt:Nat)(v:List Nat)(hv:B16 v)(h1:leaf<256)(h2:chain<256)(h3:tt<256)(h4:fr≤tt)(hE:Env w):zJ 277 #[.int .i64 (leaf:Int),.int .i64 (chain:Int),.int .i64 (fr:Int),.int .i64 (tt:Int),.agg (idA v)] w (.agg (idA (Ycw leaf chain (tt-fr) fr v))):=by
 obtain⟨R,y⟩:=xq (Ycw leaf chain (tt-fr) fr v);have F:Hid (B16 R):=Hd (by rw[y];exact Xm2 _ _ _ _ _ hv);obtain⟨cs,g⟩:=xq (idA v);obtain⟨rs,d⟩:=xq (idA R);obtain⟨w0,b⟩:=xq ((w.alloc (.cells cs 22)).alloc (.cells zz16.toArray 22));have K:Bw w w0:=by rw[b];exact((zR _ _).alloc (zL _) _).alloc (by simp) _
 have Q:IB w0 w.heap.size 22 v:=by unfold IB;rw[b,g];exact Xad (heap_alloc_last w _)
 have S:IB w0 (w.heap.size+1) 22 (List.replicate 16 0):=by have:=Xbk (w.alloc (.cells cs 22)) 22;rw[World.size_alloc] at this;rw[b];exact this
 unfold zz16 at b;rw[←y,←g,←d];have P:=Hd b;have HE:=Hd hE;have E:=Hd d;have V:=Hd Q;have W:=Hd S;have X:=Hd K;have O:=Hd hv;have M:=Hd y.symm;have SZ:Hid ((prog.info? 22).map (·.size)=some rs.size):=Hd (by rw[d,Xaf,F.o.len];exact Xam);have c1:IntKind.u8.wrap (chain:Int)=(chain:Int):=by rw[IntKind.wrap_u8];omega
 clear b g d y Q S K hv hE;go_enter func277,ntmps277;go_upto_region 1 with fail;rw[←P.o];clear P;go_wp2_with fail;go_loopg [11,12] (tt-fr) (fun k i z wr=>∃(s:Nat) (u:List Nat),s≤tt∧k=tt-s∧i=.int .i64 (s:Int)∧Hid (B16 u)∧Hid (Ycw leaf chain (tt-s) s u=R)∧Hid (IB wr w.heap.size 22 u)∧Hid (IB wr (w.heap.size+1) 22 (List.replicate 16 0))∧Hid (Bw w wr));exact⟨fr,v,h4,rfl,rfl,O,M,V,W,X⟩;clear V W X O M;obtain⟨s,u,hs,rfl,rfl,c,a,q,A,n⟩:=hrel;by_cases h:s<tt
 ·obtain⟨m,hm⟩:∃m,tt-s=m+1:=⟨tt-s-1,by omega⟩
  have NX:Hid (Ycw leaf chain (tt-(s+1)) (s+1) (stF leaf chain s u)=R):=Hd (by rw[←a.o,hm,show tt-(s+1)=m by omega];rfl);have T:=Hd (Xp5 wr 3 leaf h1);have c2:IntKind.u8.wrap (s:Int)=(s:Int):=by rw[IntKind.wrap_u8];omega
  clear a hm;go_wp2_with fail;refine T.o.mono ?_;rintro e w1 ⟨v1,rfl,o1,f⟩;have D:Bw wr (w1.alloc (.cells ([chain,s].map U).toArray 5)):=f.alloc f.size _;obtain⟨v2,w2,r2,o2,b2⟩:=Xhu (o1.alloc _:OW wr.heap.size (hdF 3 leaf) v1 (w1.alloc (.cells ([chain,s].map U).toArray 5))) D.size (by simp[hdF]) (Xje w1 [chain,s] (fun x hx=>by simp at hx;omega)) (by simp) (.inl (by simp)) 2 82;have r:=b2 _ D;have i2:=q.o.below r;obtain⟨v3,J,I,o3,b3⟩:=Xhu o2 r.size (by simp[hdF]) (i2.rdAll c.o.lt) (by rw[c.o.len];omega) (.inl (by rw[c.o.len];omega)) 16 82;rw[c.o.len] at I;have C:=b3 _ r;have j:=bg n.o C;obtain⟨H,x3⟩:=Yg1 leaf chain s u h1 h2 (by omega) c.o;have N:=Hd (Xuu J v3 _ _ o3 x3 (by rw[H];omega) (by rw[H];omega) (HE.o.on j));have t:Hid (∀wx,Bw J wx→∃wy,Sv 22 ⟨w.heap.size,0,none⟩ (.agg (idA (stF leaf chain s u))) wx wy∧Hid (IB wy w.heap.size 22 (stF leaf chain s u))∧Hid (IB wy (w.heap.size+1) 22 (List.replicate 16 0))∧Hid (Bw w wy)):=Hd (fun wx hx=>by have G:=bg C hx;obtain⟨s1,s2⟩:=(q.o.below G).store (stF leaf chain s u) (by rw[(Xo5 _ _ _ _).len,c.o.len]) (by rw[c.o.len];exact Xam);exact⟨_,s1,Hd s2,Hd ((setRow_other wx w.heap.size (w.heap.size+1) _ (by omega)).trans (A.o.below G)),Hd (below_setRow (bg n.o G) (zL _) _)⟩);have Z:=Hd r2;have R3:=Hd I;have OK:Hid (B16 (stF leaf chain s u)):=Hd (Xbf _);have l:Hid (zJ 275 #[v3] J (.agg (idA (stF leaf chain s u)))):=N;clear T N o1 f D r2 o2 b2 r i2 I o3 b3 C j H x3 c q A n;go_wp2_with (at_builtin;first
   |(refine Xav rfl _ _ _ _ rfl _ _ rfl rfl _ _ Z.o ?_)
   |(refine Xav rfl _ _ _ _ rfl _ _ rfl rfl _ _ R3.o ?_))
  refine l.o.mono ?_;rintro e w4 ⟨rfl,p⟩;obtain⟨w5,st,n0,n1,nb⟩:=t.o w4 p;have S5:=Hd st;clear st p l t Z R3;go_wp2_with ((with_reducible refine Xaa 22 rfl _ _ rfl ?_);refine⟨_,_,_,rfl,rfl,S5.o,?_⟩)
  go_roundg (tt-(s+1));exact⟨s+1,_,by omega,rfl,by go_num,OK,NX,n0,n1,nb⟩;omega
 obtain rfl:s=tt:=by omega
 have e:u=R:=by have:=a.o;rwa [Nat.sub_self] at this
 subst e;have Y:=Hd (q.o.load underlying22 (by rw[c.o.len];exact Xam));obtain⟨st,B⟩:=A.o.store u (by rw[c.o.len];simp) (by rw[List.length_replicate];exact Xam);have L:=Hd (below_setRow n.o (Nat.le_succ _) (idA u));unfold IB at B;rw[←E.o] at Y st B L;have t:=Hd st;have I4:=Hd B;clear st B q A n a;go_wp2_with (first
  |((with_reducible refine Xab 22 rfl _ rfl ?_);refine⟨_,_,rfl,Y.o,?_⟩)
  |((with_reducible refine Xaa 22 rfl _ _ rfl ?_);refine⟨_,_,_,rfl,rfl,t.o,?_⟩))
 exact zP (results_cell_row results277 _ _ (w.heap.size+1) _ _ _ _ rfl I4.o underlying22 rfl SZ.o) rfl ⟨rfl,L.o⟩
end Go.Proofs.YtjolcnopipbkhaaGreatDoor
