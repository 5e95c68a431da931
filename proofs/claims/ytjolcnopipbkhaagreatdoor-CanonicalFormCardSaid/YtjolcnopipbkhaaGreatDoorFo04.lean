/- The library's contracts on lists of texts at this seat (laid by the shelf's tools): Split, Join, Contains, Equal. -/
import Derived.Test.YtjolcnopipbkhaaGreatDoorFo03
import Derived.Laws.IdiomStrings
import Derived.Laws.AppendOwn
namespace Go.Proofs.YtjolcnopipbkhaaGreatDoor
open Go.Proofs.Tryz
open Go.Shelf Go.RowKit
set_option linter.unusedVariables false
set_option maxRecDepth 100000
set_option maxHeartbeats 100000000
def Xgt:Go.Shelf.Ren:=⟨fun|156=>78|165=>126|166=>40|169=>41|240=>83|241=>178|276=>131|277=>229|n=>n,fun|31=>23|9=>9|3=>3|4=>4|0=>0|20=>20|72=>84|76=>87|70=>81|37=>82|75=>86|127=>130|164=>188|5=>5|80=>89|n=>n,fun|n=>n⟩
theorem Xmt:Go.Proofs.Lays.n156 prog Xgt:={
 mixed:=by kernel_rfl
 f156:=func78.trans (congrArg some (by kernel_rfl))
 f165:=func126.trans (congrArg some (by kernel_rfl))
 f166:=func40.trans (congrArg some (by kernel_rfl))
 f169:=func41.trans (congrArg some (by kernel_rfl))
 f240:=func83.trans (congrArg some (by kernel_rfl))
 f241:=func178.trans (congrArg some (by kernel_rfl))
 f276:=func131.trans (congrArg some (by kernel_rfl))
 f277:=func229.trans (congrArg some (by kernel_rfl))
 t0:=underlying0
 a0:=Tryz.isAgg0
 z0:=Tryz.sizeOf0
 v0:=Tryz.zeroValue0
 t3:=underlying3
 a3:=Tryz.isAgg3
 z3:=Tryz.sizeOf3
 v3:=Tryz.zeroValue3
 t4:=underlying4
 a4:=Tryz.isAgg4
 z4:=Tryz.sizeOf4
 v4:=Tryz.zeroValue4
 t9:=underlying9
 a9:=Tryz.isAgg9
 z9:=Tryz.sizeOf9
 v9:=Tryz.zeroValue9
 t20:=underlying20
 a20:=Tryz.isAgg20
 z20:=Tryz.sizeOf20
 v20:=Tryz.zeroValue20
 t31:=underlying23
 a31:=Tryz.isAgg23
 z31:=Tryz.sizeOf23
 v31:=Tryz.zeroValue23
 t37:=underlying82
 a37:=Tryz.isAgg82
 z37:=Tryz.sizeOf82
 v37:=Tryz.zeroValue82
 t70:=underlying81
 a70:=Tryz.isAgg81
 z70:=Tryz.sizeOf81
 v70:=Tryz.zeroValue81
 t72:=underlying84
 a72:=Tryz.isAgg84
 z72:=Tryz.sizeOf84
 v72:=Tryz.zeroValue84
 t75:=underlying86
 a75:=Tryz.isAgg86
 z75:=Tryz.sizeOf86
 v75:=Tryz.zeroValue86
 t76:=underlying87
 a76:=Tryz.isAgg87
 z76:=Tryz.sizeOf87
 v76:=Tryz.zeroValue87
 t127:=underlying130
 a127:=Tryz.isAgg130
 z127:=Tryz.sizeOf130
 v127:=Tryz.zeroValue130
 t164:=underlying188
 a164:=Tryz.isAgg188
 z164:=Tryz.sizeOf188
 v164:=Tryz.zeroValue188}
theorem Xds:Builder.Extra prog Xgt:={
 sizeBuilder:=by kernel_rfl
 liesBuilder:=by kernel_rfl
 t5:=underlying5
 a5:=Tryz.isAgg5
 z5:=Tryz.sizeOf5
 v5:=Tryz.zeroValue5
 infoByte:=by kernel_rfl
 cellsByte:=by kernel_rfl
 sizeByte:=by kernel_rfl
 neB5:=by decide}
theorem Xgm (a:Option Addr)(c:Nat)(sep:ByteArray)(w:World):
    Ry 78 #[.slice a 0 c,.string sep] w (.string ⟨#[]⟩):=Any.strings_Join_none Xmt Xds a c sep w
theorem Xk1 (bk o c:Nat)(xs:List ByteArray)(sep:ByteArray)(w:World)(hcells:∀(j:Nat) x,xs[j]?=some x→w.cell? ⟨bk,o+j,none⟩=some (.string x))(hbk:bk<w.heap.size)(hN:xs.length≤140737488355328)(hcap:xs.length≤c)(hlen:(Lib.join (xs.map (·.data.toList)) sep.data.toList).length≤140737488355328):
    zJ 78 #[.slice (some ⟨bk,o,none⟩) xs.length c,.string sep] w (.string ⟨(Lib.join (xs.map (·.data.toList)) sep.data.toList).toArray⟩):=Any.strings_Join Xmt Xds bk o c xs sep w hcells hbk hN hcap hlen
def Xl1:Go.Shelf.Ren:=⟨fun|146=>149|221=>205|268=>245|138=>246|143=>188|195=>271|197=>272|218=>273|219=>146|260=>281|217=>201|225=>202|224=>203|267=>204|266=>243|314=>244|n=>n,fun|9=>9|31=>23|3=>3|4=>4|0=>0|105=>315|21=>21|5=>5|46=>128|119=>320|139=>323|138=>322|146=>296|51=>163|n=>n,fun|1=>2|3=>7|4=>8|n=>n⟩
theorem Xwd:Go.Proofs.Lays.n146 prog Xl1:={
 mixed:=by kernel_rfl
 f138:=func246.trans (congrArg some (by kernel_rfl))
 f143:=func188.trans (congrArg some (by kernel_rfl))
 f146:=func149.trans (congrArg some (by kernel_rfl))
 f195:=func271.trans (congrArg some (by kernel_rfl))
 f197:=func272.trans (congrArg some (by kernel_rfl))
 f217:=func201.trans (congrArg some (by kernel_rfl))
 f218:=func273.trans (congrArg some (by kernel_rfl))
 f219:=func146.trans (congrArg some (by kernel_rfl))
 f221:=func205.trans (congrArg some (by kernel_rfl))
 f224:=func203.trans (congrArg some (by kernel_rfl))
 f225:=func202.trans (congrArg some (by kernel_rfl))
 f260:=func281.trans (congrArg some (by kernel_rfl))
 f266:=func243.trans (congrArg some (by kernel_rfl))
 f267:=func204.trans (congrArg some (by kernel_rfl))
 f268:=func245.trans (congrArg some (by kernel_rfl))
 f314:=func244.trans (congrArg some (by kernel_rfl))
 t0:=underlying0
 a0:=Tryz.isAgg0
 z0:=Tryz.sizeOf0
 v0:=Tryz.zeroValue0
 t3:=underlying3
 a3:=Tryz.isAgg3
 z3:=Tryz.sizeOf3
 v3:=Tryz.zeroValue3
 t4:=underlying4
 a4:=Tryz.isAgg4
 z4:=Tryz.sizeOf4
 v4:=Tryz.zeroValue4
 t5:=underlying5
 a5:=Tryz.isAgg5
 z5:=Tryz.sizeOf5
 v5:=Tryz.zeroValue5
 t9:=underlying9
 a9:=Tryz.isAgg9
 z9:=Tryz.sizeOf9
 v9:=Tryz.zeroValue9
 t21:=underlying21
 a21:=Tryz.isAgg21
 z21:=Tryz.sizeOf21
 v21:=Tryz.zeroValue21
 t31:=underlying23
 a31:=Tryz.isAgg23
 z31:=Tryz.sizeOf23
 v31:=Tryz.zeroValue23
 t46:=underlying128
 a46:=Tryz.isAgg128
 z46:=Tryz.sizeOf128
 v46:=Tryz.zeroValue128
 t51:=underlying163
 a51:=Tryz.isAgg163
 z51:=Tryz.sizeOf163
 v51:=Tryz.zeroValue163
 t105:=underlying315
 a105:=Tryz.isAgg315
 z105:=Tryz.sizeOf315
 v105:=Tryz.zeroValue315
 t119:=underlying320
 a119:=Tryz.isAgg320
 z119:=Tryz.sizeOf320
 t138:=underlying322
 a138:=Tryz.isAgg322
 z138:=Tryz.sizeOf322
 v138:=Tryz.zeroValue322
 t139:=underlying323
 a139:=Tryz.isAgg323
 z139:=Tryz.sizeOf323
 v139:=Tryz.zeroValue323
 t146:=underlying296
 a146:=Tryz.isAgg296
 z146:=Tryz.sizeOf296
 v146:=Tryz.zeroValue296
 g1:=by kernel_rfl
 g3:=by kernel_rfl
 g4:=by kernel_rfl}
theorem Xjj (s sep:ByteArray)(m:Int)(w:World)(hs:s.size<4294967281)(hm:w.cell? ⟨2,0,none⟩=some (.int .i64 m))(h1:1≤sep.size):
    Calls prog 149 #[.string s,.string sep] w fun e w'=>
     e=.returned (.slice (some ⟨w.heap.size,0,none⟩) (Lib.countB s sep+1) (Lib.countB s sep+1))∧w'=w.alloc (.cells ((Lib.splitB sep 0 (Lib.countB s sep) s).map Value.string).toArray 9):=Any.strings_Split Xwd (by kernel_rfl) s sep m w hs hm h1
def Xl5:Go.Shelf.Ren:=⟨fun|110=>125|109=>177|n=>n,fun|31=>23|9=>9|4=>4|3=>3|0=>0|n=>n,fun|n=>n⟩
theorem Xmu:Go.Proofs.Lays.n110 prog Xl5:={
 mixed:=by kernel_rfl
 f109:=func177.trans (congrArg some (by kernel_rfl))
 f110:=func125.trans (congrArg some (by kernel_rfl))
 t0:=underlying0
 a0:=Tryz.isAgg0
 z0:=Tryz.sizeOf0
 v0:=Tryz.zeroValue0
 t3:=underlying3
 a3:=Tryz.isAgg3
 z3:=Tryz.sizeOf3
 v3:=Tryz.zeroValue3
 t4:=underlying4
 a4:=Tryz.isAgg4
 z4:=Tryz.sizeOf4
 v4:=Tryz.zeroValue4
 t9:=underlying9
 a9:=Tryz.isAgg9
 z9:=Tryz.sizeOf9
 v9:=Tryz.zeroValue9
 t31:=underlying23
 a31:=Tryz.isAgg23
 z31:=Tryz.sizeOf23
 v31:=Tryz.zeroValue23}
theorem Xel (b off n c:Nat)(zs:List ByteArray)(x:ByteArray)(w:World)(hz:n≤zs.length)(hbig:n≤9223372036854775807)(hc:∀j,j<zs.length→w.cell? ⟨b,off+j,none⟩=some (.string (zs.getD j ByteArray.empty))):
    Ry 125 #[.slice (some ⟨b,off,none⟩) n c,.string x] w (.bool (Lib.containsS (zs.take n) x)):=Any.slices_Contains_string Xmu b off n c zs x w hz hbig hc
theorem Xde (a:Option Addr)(c:Nat)(x:ByteArray)(w:World):
    Ry 125 #[.slice a 0 c,.string x] w (.bool false):=Any.slices_Contains_string_empty Xmu a c x w
end Go.Proofs.YtjolcnopipbkhaaGreatDoor
/- Names of groups. -/
namespace Go.Proofs.YtjolcnopipbkhaaGreatDoor
open Go.Proofs.Tryz
open Go.RowKit Go.Maps
set_option linter.unusedVariables false
set_option maxHeartbeats 100000000
set_option maxRecDepth 100000
def Yl2 (b:Bool)(w:World)(e:Ending)(w':World):Prop:=
 ∃n:Int,e=.returned (.int .i64 n)∧(b=true→0≤n)∧(b=false→n<0)∧w=w'
theorem Ydh (w:World)(s:ByteArray)(cap:Nat)(fz:Nat×Nat):Rd (w.alloc (.cells (bytesRow s cap) 5 fz)) (some ⟨w.heap.size,0,none⟩) (bs s):=by
 refine⟨Xgq s,fun _=>⟨w.heap.size,0,rfl,by simp,fun i hi=>?_⟩⟩
 rw[Nat.zero_add,cell_of_row _ w.heap.size i _ 5 fz (zN w _)]
 have hi':i<s.size:=by rw[Xaa] at hi;exact hi
 have hi2:i<(s.data.map (fun b=>Value.int .u8 b.toNat)).size:=by simpa using hi'
 unfold bytesRow
 rw[Array.getElem?_append_left hi2]
 rw[Ylk s i hi']
 rw[Array.getElem?_map,Array.getElem?_eq_getElem (show i<s.data.size from hi')]
 rfl
theorem Xjd {p:Nat→Bool}{l:List Nat}{k:Nat}(h:(l.take k).any p=false)(hk:l.length≤k):l.any p=false:=by rwa [List.take_of_length_le hk] at h
theorem Xjc {p:Nat→Bool}{l:List Nat}{k c:Nat}(hk:k<l.length)(hc:c=l.getD k 0)(h:p c=true):l.any p=true:=by
 rw[List.any_eq_true];rw[List.getD_eq_getElem?_getD,List.getElem?_eq_getElem hk,Option.getD_some] at hc;exact⟨_,zG hk,by rw[←hc];exact h⟩
theorem Xib {p:Nat→Bool}{l:List Nat}{k c:Nat}(h0:(l.take k).any p=false)(hk:k<l.length)(hc:c=l.getD k 0)(h:p c=false):(l.take (k+1)).any p=false:=by
 rw[List.getD_eq_getElem?_getD,List.getElem?_eq_getElem hk,Option.getD_some] at hc
 rw[List.take_succ_eq_append_getElem hk,List.any_append,h0,←hc];simp[h]
def nmB (c:Nat):Bool:=!nmC c
theorem Xuo (w:World)(c:Nat)(hc:c<256):Rx 226 #[.int .u8 (c:Int)] w (.bool (low c)):=by
 obtain⟨b,hb⟩:=xq (low c)
 rw[←hb]
 have HB:=Hd hb
 clear hb
 rcases(by omega:c<97∨(97≤c∧c≤122)∨122<c) with h|⟨h,h2⟩|h
 all_goals
  go_enter func226,ntmps226
  go_wp2_with fail
  go_ret
  exact⟨Xa0 (by rw[HB.o,Bool.eq_iff_iff];simp[low];try omega),rfl⟩
theorem Xy9 (w:World)(c:Nat)(hc:c<256):Rx 228 #[.int .u8 (c:Int)] w (.bool (nmB c)):=by
 obtain⟨b,hb⟩:=xq (nmB c)
 rw[←hb]
 have HB:=Hd hb
 have L:=Hd (fun w=>Xuo w c hc)
 obtain⟨pl,hpl⟩:=xq (low c)
 rw[←hpl] at L
 have HL:=Hd hpl
 clear hb hpl
 rcases(by omega:c=45∨c=43∨c=95∨(c≠45∧c≠43∧c≠95)) with rfl|rfl|rfl|⟨h1,h2,h3⟩
 ·have e:pl=false:=by rw[HL.o];decide
  subst e
  go_enter func228,ntmps228
  go_wp2_with (go_at_call 226;refine(L.o _).mono ?_;rintro e w' ⟨rfl,rfl⟩)
  go_ret
  exact⟨Xa0 (by rw[HB.o];decide),rfl⟩
 ·have e:pl=false:=by rw[HL.o];decide
  subst e
  go_enter func228,ntmps228
  go_wp2_with (go_at_call 226;refine(L.o _).mono ?_;rintro e w' ⟨rfl,rfl⟩)
  go_ret
  exact⟨Xa0 (by rw[HB.o];decide),rfl⟩
 ·have e:pl=false:=by rw[HL.o];decide
  subst e
  go_enter func228,ntmps228
  go_wp2_with (go_at_call 226;refine(L.o _).mono ?_;rintro e w' ⟨rfl,rfl⟩)
  go_ret
  exact⟨Xa0 (by rw[HB.o];decide),rfl⟩
 ·have q1:((c:Int) !=45)=true:=Xam (by omega)
  have q2:((c:Int) !=43)=true:=Xam (by omega)
  have q3:((c:Int) !=95)=true:=Xam (by omega)
  have X:Hid (nmB c=(!low c&&!dig c)):=Hd (by unfold nmB nmC;rw[zW h1,zW h2,zW h3];cases low c<;>cases dig c<;>rfl)
  clear h1 h2 h3
  cases pl
  ·rcases(by omega:c<48∨(48≤c∧c≤57)∨57<c) with h|⟨h,h'⟩|h
   all_goals
    go_enter func228,ntmps228
    go_wp2_with (go_at_call 226;refine(L.o _).mono ?_;rintro e w' ⟨rfl,rfl⟩)
    go_ret
    exact⟨Xa0 (by rw[HB.o,X.o,←HL.o,Bool.eq_iff_iff];simp[dig];try omega),rfl⟩
  ·go_enter func228,ntmps228
   go_wp2_with (go_at_call 226;refine(L.o _).mono ?_;rintro e w' ⟨rfl,rfl⟩)
   go_ret
   exact⟨Xa0 (by rw[HB.o,X.o,←HL.o];rfl),rfl⟩
theorem Ymr (w:World)(a:Option Addr)(cap:Nat)(l:List Nat)(hl:l.length≤maxLen)(hrd:Rd w a l):
    Calls prog 260 #[.slice a l.length cap,.func (.func 228) #[] #[]] w (Yl2 (l.any nmB) w):=by
 unfold maxLen at hl
 obtain⟨n,hn⟩:=xq l.length
 rw[←hn] at hl⊢
 have HR:=Hd hrd;have HN:=Hd hn
 clear hrd hn
 go_enter func260,ntmps260
 go_wp2_with fail
 go_loopg [8] n (fun k i wr=>∃j:Nat,j≤n∧k=n-j∧i=.int .i64 (j:Int)∧Hid ((l.take j).any nmB=false)∧w=wr)
 case atStart=>exact⟨0,by omega,rfl,rfl,rfl,rfl⟩
 case round=>
  obtain⟨j,hj,rfl,rfl,ha,rfl⟩:=hrel
  by_cases h:j<n
  ·have hjl:j<l.length:=by rw[←HN.o];exact h
   obtain⟨b,off,rfl,hbl,hcl⟩:=HR.o.at_ (by omega)
   obtain⟨c,hc⟩:=xq (l.getD j 0)
   have hcj:l.getD j 0=l[j]:=by rw[List.getD_eq_getElem?_getD,List.getElem?_eq_getElem hjl,Option.getD_some]
   have hcc:w.cell? ⟨b,off+j,none⟩=some (.int .u8 (c:Int)):=by rw[hc,hcj];exact hcl j hjl
   have hc2:c<256:=by rw[hc,hcj];exact HR.o.lt _ (zG hjl)
   have HC:=Hd hc;have HJ:=Hd hjl
   clear hc hcl hcj hjl
   cases hp:nmB c
   ·have C:Hid (∀w,Rx 228 #[.int .u8 (c:Int)] w (.bool false)):=fun w=>by rw[←hp];exact Xy9 w c hc2
    have HP:=Hd hp
    clear hp
    go_wp2_with (go_at_call 228;refine(C.o _).mono ?_;rintro e w' ⟨rfl,rfl⟩)
    go_roundg (n-(j+1))
    case measure=>omega
    case rel=>exact⟨j+1,by omega,rfl,by go_num,Xib ha.o HJ.o HC.o HP.o,rfl⟩
   ·have C:Hid (∀w,Rx 228 #[.int .u8 (c:Int)] w (.bool true)):=fun w=>by rw[←hp];exact Xy9 w c hc2
    have HP:=Hd hp
    clear hp
    go_wp2_with (go_at_call 228;refine(C.o _).mono ?_;rintro e w' ⟨rfl,rfl⟩)
    go_ret
    exact⟨_,rfl,(fun _=>by omega),(fun h=>by rw[Xjc HJ.o HC.o HP.o] at h;cases h),rfl⟩
  ·go_wp2_with fail
   go_ret
   exact⟨_,rfl,(fun h'=>by rw[Xjd ha.o (by rw[←HN.o];omega)] at h';cases h'),(fun _=>by decide),rfl⟩
theorem Ym6 (w:World)(a:Option Addr)(cap:Nat)(l:List Nat)(hl:l.length≤maxLen)(hrd:Rd w a l):
    Rx 227 #[.slice a l.length cap,.func (.func 228) #[] #[]] w (.bool (l.any nmB)):=by
 have C:=Hd (Ymr w a cap l hl hrd)
 obtain⟨b,hb⟩:=xq (l.any nmB)
 obtain⟨n,hn⟩:=xq l.length
 rw[←hb,←hn] at C⊢
 clear hb hn hl hrd
 go_enter func227,ntmps227
 go_wp2_with fail
 refine C.o.mono ?_
 rintro e w' ⟨m,rfl,h1,h2,rfl⟩
 cases b
 ·have h:=h2 rfl
  clear h1 h2 C
  go_wp2_with fail
  go_ret
  exact⟨Xa0 (by simp;omega),rfl⟩
 ·have h:=h1 rfl
  clear h1 h2 C
  go_wp2_with fail
  go_ret
  exact⟨rfl,rfl⟩
theorem Ybg (s:ByteArray) (w:World):(convert 9 82 (.string s)).run Tryz.prog w=.ok (.slice (some ⟨w.heap.size,0,none⟩) s.size (grownCap w s.size 0 5))
      (w.drew.alloc (.cells (bytesRow s (grownCap w s.size 0 5)) 5 ((bytesRow s (grownCap w s.size 0 5)).size,(bytesRow s (grownCap w s.size 0 5)).size+1))):=
 run_bytes_of_string w 9 82 5 s underlying9 underlying82 underlying5
theorem Yhc (w:World)(s:ByteArray)(cap:Nat)(fz:Nat×Nat):Rd (w.drew.alloc (.cells (bytesRow s cap) 5 fz)) (some ⟨w.heap.size,0,none⟩) (bs s):=Ydh w.drew s cap fz
theorem Xxb {B:Nat}{w w1:World}(h:Below B w w1)(hB:B≤w1.heap.size)(o:Obj):Below B w (w1.drew.alloc o):=h.drew.alloc hB o
theorem Xqt (s:ByteArray)(w:World):∃(W:World) (cap:Nat),(convert 9 82 (.string s)).run prog w=.ok (.slice (some ⟨w.heap.size,0,none⟩) s.size cap) W∧
    Rd W (some ⟨w.heap.size,0,none⟩) (bs s)∧Bw w W∧W.heap.size=w.heap.size+1:=
 ⟨_,_,Ybg s w,Yhc w s _ _,Xxb (zR _ _) (zL _) _,by simp⟩
theorem Xs3 (l:List Nat):(!l.any nmB)=l.all nmC:=by
 induction l with
 |nil=>rfl
 |cons a l ih=>simp only[List.any_cons,List.all_cons,←ih,nmB];cases nmC a<;>simp
theorem Ye4 (s:ByteArray)(w:World)(hs:s.size≤1000000):
    zJ 176 #[.string s] w (.bool (Xeq (bs s))):=by
 by_cases h0:s.size=0
 ·obtain rfl:=Xeh h0
  clear h0 hs
  go_enter func176,ntmps176
  go_wp2_with fail
  go_ret
  exact⟨rfl,zR _ _⟩
 ·have n0:=Xd2 h0
  have E0:(bs s).isEmpty=false:=by
   rw[List.isEmpty_eq_false_iff];intro e;apply h0;rw[←Xaa,e];rfl
  by_cases h20:20<s.size
  ·have C:Hid (Xeq (bs s)=false):=Hd (by unfold Xeq;rw[Xaa,zW (show¬s.size≤20 by omega)];simp)
   clear E0
   go_enter func176,ntmps176
   go_wp2_with fail
   go_ret
   exact⟨by rw[C.o];rfl,zR _ _⟩
  ·obtain⟨c,hc⟩:=xq ((bs s).getD 0 0)
   have hc2:c<256:=by rw[hc];exact Xba s 0
   have x0:=Yb9 s c hc (by omega)
   have L:=Hd (fun w=>Xuo w c hc2)
   have CM:Hid (Xeq (bs s)=(low c&&!(bs s).any nmB)):=Hd (by unfold Xeq;rw[E0,Xaa,zT (show s.size≤20 by omega),←hc,Xs3];simp)
   have CF:Hid (∀(w:World) (a:Option Addr) (cap:Nat),Rd w a (bs s)→Rx 227 #[.slice a s.size cap,.func (.func 228) #[] #[]] w (.bool ((bs s).any nmB))):=fun w a cap h=>by
    rw[←Xaa];exact Ym6 w a cap (bs s) (by rw[Xaa];unfold maxLen;omega) h
   obtain⟨pl,hpl⟩:=xq (low c)
   obtain⟨pa,hpa⟩:=xq ((bs s).any nmB)
   rw[←hpl] at L CM
   rw[←hpa] at CF CM
   obtain⟨W,cap,hconv,hrd,hbw,hsz⟩:=Xqt s w
   have HR:=Hd hrd;have HBW:=Hd hbw
   clear hc hpl hpa E0 h0 hs hrd hbw hsz
   cases pl
   ·go_enter func176,ntmps176
    go_wp2_with (go_at_call 226;refine(L.o _).mono ?_;rintro e w' ⟨rfl,rfl⟩)
    go_ret
    exact⟨by rw[CM.o];rfl,zR _ _⟩
   ·go_enter func176,ntmps176
    go_wp2_with (first
     |(go_at_call 226;refine(L.o _).mono ?_;rintro e w' ⟨rfl,rfl⟩)
     |(go_at_call 227;refine(CF.o _ _ _ HR.o).mono ?_;rintro e w' ⟨rfl,rfl⟩))
    go_ret
    exact⟨by rw[CM.o];cases pa<;>rfl,HBW.o⟩
theorem Xza (s:ByteArray)(w:World)(hs:s.size≤1000000):
    zJ 175 #[.string s] w (.bool (!Xeq (bs s))):=by
 have C:=Hd (Ye4 s w hs)
 obtain⟨b,hb⟩:=xq (Xeq (bs s))
 rw[←hb] at C⊢
 clear hb
 go_enter func175,ntmps175
 go_wp2_with fail
 refine C.o.mono ?_
 rintro e w1 ⟨rfl,hb1⟩
 have B1:=Hd hb1
 clear hb1 C
 go_wp2_with fail
 go_ret
 exact⟨rfl,B1.o⟩
structure Cn where
 name:ByteArray
 author:List Nat
 date:Int
 groups:List ByteArray
 subject:ByteArray
 refs:List (List Nat)
 sup:List Nat
 ctl:ByteArray
 dist:ByteArray
 number:Int
 height:Int
 root:List Nat
 leaf:Int
 body:ByteArray
def Cn.p (c:Cn):Cont:=⟨bs c.name,c.author,c.date,c.groups.map bs,bs c.subject,c.refs,c.sup,bs c.ctl,bs c.dist,c.number,c.height,c.root,c.leaf,bs c.body⟩
structure B16 (l:List Nat):Prop where
 len:l.length=16
 lt:∀x∈l,x<256
structure Cn.Ok (c:Cn):Prop where
 author:B16 c.author
 root:B16 c.root
 sup:IdOk c.sup
 refs:∀x∈c.refs,IdOk x
 date:(Lit.int .i64 c.date).wf=true
 number:(Lit.int .i64 c.number).wf=true
 height:(Lit.int .i64 c.height).wf=true
 leaf:(Lit.int .i64 c.leaf).wf=true
def Cn.cells (c:Cn)(gv rv:Value):Array Value:=
 (([.string c.name]:List Value)++(c.author.map U++(([.int .i64 c.date,gv,.string c.subject,rv]:List Value)++(c.sup.map U++(([.string c.ctl,.string c.dist,.int .i64 c.number,.int .i64 c.height]:List Value)++(c.root.map U++([.int .i64 c.leaf,.string c.body]:List Value))))))).toArray
theorem Xs2 (X:List Value)(l:List Nat)(Y:List Value)(n:Nat)(hn:X.length=n):∀j u,(idA l)[j]?=some u→(X++(l.map U++Y)).toArray[n+j]?=some u:=by
 have:=Ylt X l Y n hn
 simpa [List.append_assoc] using this
theorem Ya9 (c:Cn)(gv rv:Value):(c.cells gv rv)[0]?=some (.string c.name):=rfl
theorem Xqn (c:Cn)(gv rv:Value):∀j u,(idA c.author)[j]?=some u→(c.cells gv rv)[1+j]?=some u:=Xs2 _ _ _ 1 rfl
section
variable {c:Cn} (h:c.Ok) (gv rv:Value)
include h
theorem Xa2:(c.cells gv rv).size=75:=by simp[Cn.cells,h.author.len,h.root.len,h.sup.len]
theorem Xln:(c.cells gv rv)[17]?=some (.int .i64 c.date):=by simp[Cn.cells,h.author.len,h.root.len,h.sup.len]
theorem Xh8:(c.cells gv rv)[18]?=some gv:=by simp[Cn.cells,h.author.len,h.root.len,h.sup.len]
theorem Xlm:(c.cells gv rv)[19]?=some (.string c.subject):=by simp[Cn.cells,h.author.len,h.root.len,h.sup.len]
theorem Xh7:(c.cells gv rv)[20]?=some rv:=by simp[Cn.cells,h.author.len,h.root.len,h.sup.len]
theorem Xjn:(c.cells gv rv)[53]?=some (.string c.ctl):=by simp[Cn.cells,h.author.len,h.root.len,h.sup.len]
theorem Xll:(c.cells gv rv)[54]?=some (.string c.dist):=by simp[Cn.cells,h.author.len,h.root.len,h.sup.len]
theorem Xjm:(c.cells gv rv)[55]?=some (.int .i64 c.number):=by simp[Cn.cells,h.author.len,h.root.len,h.sup.len]
theorem Xst:(c.cells gv rv)[56]?=some (.int .i64 c.height):=by simp[Cn.cells,h.author.len,h.root.len,h.sup.len]
theorem Xh6:(c.cells gv rv)[73]?=some (.int .i64 c.leaf):=by simp[Cn.cells,h.author.len,h.root.len,h.sup.len]
theorem Xjl:(c.cells gv rv)[74]?=some (.string c.body):=by simp[Cn.cells,h.author.len,h.root.len,h.sup.len]
theorem Ylf:∀j u,(idA c.sup)[j]?=some u→(c.cells gv rv)[21+j]?=some u:=by
 have:=Xs2 (([.string c.name]:List Value)++(c.author.map U++([.int .i64 c.date,gv,.string c.subject,rv]:List Value))) c.sup (([.string c.ctl,.string c.dist,.int .i64 c.number,.int .i64 c.height]:List Value)++(c.root.map U++([.int .i64 c.leaf,.string c.body]:List Value))) 21 (by simp[h.author.len])
 simpa [Cn.cells,List.append_assoc] using this
theorem Ya7:∀j u,(idA c.root)[j]?=some u→(c.cells gv rv)[57+j]?=some u:=by
 have:=Xs2 (([.string c.name]:List Value)++(c.author.map U++(([.int .i64 c.date,gv,.string c.subject,rv]:List Value)++(c.sup.map U++([.string c.ctl,.string c.dist,.int .i64 c.number,.int .i64 c.height]:List Value))))) c.root ([.int .i64 c.leaf,.string c.body]:List Value) 57 (by simp[h.author.len,h.sup.len])
 simpa [Cn.cells,List.append_assoc] using this
theorem Ya8:∀j u,((.int .i64 c.height::c.root.map U:List Value).toArray)[j]?=some u→(c.cells gv rv)[56+j]?=some u:=by
 intro j u hu
 cases j with
 |zero=>rw[←hu];exact Xst h gv rv
 |succ j=>
  have:=Ya7 h gv rv j u (by simpa [idA] using hu)
  rw[show 56+(j+1)=57+j by omega]
  exact this
end
def SRow (w:World)(v:Value)(gs:List ByteArray):Prop:=
 ∃a cap,v=.slice a gs.length cap∧gs.length≤cap∧(gs≠[]→∃b off,a=some ⟨b,off,none⟩∧b<w.heap.size∧∀j (h:j<gs.length),w.cell? ⟨b,off+j,none⟩=some (.string gs[j]))
def IRow (w:World)(v:Value)(ids:List (List Nat)):Prop:=
 ∃a cap,v=.slice a ids.length cap∧ids.length≤cap∧(ids≠[]→∃b off,a=some ⟨b,off,none⟩∧b<w.heap.size∧∀j (h:j<ids.length) k u,(idA ids[j])[k]?=some u→w.cell? ⟨b,off+j*32+k,none⟩=some u)
theorem SRow.below {w w':World}{v:Value}{gs:List ByteArray}(h:SRow w v gs)(hb:Bw w w'):SRow w' v gs:=by
 obtain⟨a,cap,h1,h2,h3⟩:=h
 refine⟨a,cap,h1,h2,fun hne=>?_⟩
 obtain⟨b,off,h4,h5,h6⟩:=h3 hne
 exact⟨b,off,h4,Nat.lt_of_lt_of_le h5 hb.size,fun j hj=>(hb.cell (p:=⟨b,off+j,none⟩) h5).trans (h6 j hj)⟩
theorem IRow.below {w w':World}{v:Value}{ids:List (List Nat)}(h:IRow w v ids)(hb:Bw w w'):IRow w' v ids:=by
 obtain⟨a,cap,h1,h2,h3⟩:=h
 refine⟨a,cap,h1,h2,fun hne=>?_⟩
 obtain⟨b,off,h4,h5,h6⟩:=h3 hne
 exact⟨b,off,h4,Nat.lt_of_lt_of_le h5 hb.size,fun j hj k u hu=>(hb.cell (p:=⟨b,off+j*32+k,none⟩) h5).trans (h6 j hj k u hu)⟩
def OW (B:Nat)(xs:List Nat)(v:Value)(w:World):Prop:=w.ownsRow B 5 1 v xs.length (xs.map U)
theorem OW.app {B:Nat}{xs ys:List Nat}{v':Value}{w1:World}{m:Nat}{news:List Value}(hm:m=ys.length)(hn:news=ys.map U)(h:w1.ownsRow B 5 1 v' (xs.length+m) (xs.map U++news)):OW B (xs++ys) v' w1:=by
 subst hm hn;unfold OW;rw[List.length_append,List.map_append];exact h
theorem Xe1 {B B':Nat}{w wr w1:World}{xs:List Nat}{v:Value}{o:Obj}(hb:Below B w wr)(hB:B≤wr.heap.size)(hBB:B≤B')(hown:OW B' xs v wr)(hg:(wr.alloc o).grownBy w1 v.ownBlock):Below B w w1:=
 Below.grown (hb.alloc hB o) hg (by simp;omega) (fun k hk=>Nat.le_trans hBB (hown.lt k hk).1)
theorem Xcx {l:List Nat}{k c:Nat}(hk:k<l.length)(hc:c=l.getD k 0):Xbv (l.take (k+1))=Xbv (l.take k)++[hxl (c/16),hxl (c%16)]:=by
 rw[List.getD_eq_getElem?_getD,List.getElem?_eq_getElem hk,Option.getD_some] at hc
 rw[List.take_succ_eq_append_getElem hk,Xbv,Xbv,List.flatMap_append,←hc];simp
theorem Xbs (l:List Nat):(Xbv l).length=2*l.length:=by
 induction l with
 |nil=>rfl
 |cons a l ih=>simp only[Xbv,List.flatMap_cons,List.length_append,List.length_cons,List.length_nil] at ih⊢;omega
theorem Yk0 {k:Nat}(h:k<16):hxl k<256:=by unfold hxl;split<;>omega
theorem Xz7 {l:List Nat}(h:∀x∈l,x<256):∀x∈Xbv l,x<256:=by
 intro x hx
 obtain⟨b,hb,hx⟩:=List.mem_flatMap.1 hx
 have:=h b hb
 simp at hx
 rcases hx with rfl|rfl<;>exact Yk0 (by omega)
theorem Xju (k:Nat)(i:Int)(hi:i=k)(hk:k<16)(w:World):(Instr.index 9 (.string ⟨#[48,49,50,51,52,53,54,55,56,57,97,98,99,100,101,102]⟩) (.int .u8 i)).run prog w=.ok (.int .u8 ((hxl k:Nat):Int)) w:=by
 rw[Xa5 9 underlying9 ⟨#[48,49,50,51,52,53,54,55,56,57,97,98,99,100,101,102]⟩ .u8 i k hi hk]
 have:∀k:Fin 16,(bs ⟨#[48,49,50,51,52,53,54,55,56,57,97,98,99,100,101,102]⟩).getD k.val 0=hxl k.val:=by decide+kernel
 rw[this ⟨k,hk⟩]
theorem Xm7 (q:Nat)(h:q<256):Go.bits .and .u8 (q:Int) 15=((q%16:Nat):Int):=by
 have:∀q:Fin 256,Go.bits .and .u8 ((q.val:Nat):Int) 15=((q.val%16:Nat):Int):=by decide+kernel
 exact this ⟨q,h⟩
theorem Yh9 (w:World)(a:Option Addr)(cap:Nat)(l:List Nat)(hl:l.length≤100000)(hrd:Rd w a l):
    zJ 179 #[.slice a l.length cap] w (.string (Xaq (Xbv l))):=by
 obtain⟨i0,hi0,hz0,hz1,hz2⟩:=info_parts Xhw
 obtain⟨n,hn⟩:=xq l.length
 obtain⟨p,hp⟩:=xq w.heap.size
 rw[←hn] at hl⊢
 have HR:=Hd hrd;have HN:=Hd hn;have HP:=Hd hp
 clear hrd hn
 go_enter func179,ntmps179
 go_wp2_with (at_make;refine Xb9 _ rfl _ _ _ rfl 5 i0 _ 1 underlying82 hi0 hz0 hz1 .i64 .i64 _ _ 0 (2*n) rfl rfl rfl (by omega) (by omega) (by rw[hz2];omega) (by unfold maxLen;omega) ?_;intro cs hcs)
 have a1:=World.ownsRow_made (base:=w.heap.size) (e:=5) (size:=1) w cs (2*n) (zL _) (by unfold maxLen;omega) hcs
 rw[←hp] at a1⊢
 have A1:=Hd a1
 clear a1 hp hcs
 go_loopg [3,5,12] n (fun k v c i wr=>∃j:Nat,j≤n∧k=n-j∧i=.int .i64 (j:Int)∧OW p (Xbv (l.take j)) v wr∧Bw w wr)
 case atStart=>exact⟨0,by omega,rfl,rfl,A1.o,(zR _ _).alloc (zL _) _⟩
 case round=>
  obtain⟨j,hj,rfl,rfl,hown,hbw⟩:=hrel
  by_cases h:j<n
  ·have hjl:j<l.length:=by rw[←HN.o];exact h
   obtain⟨c,hc⟩:=xq (l.getD j 0)
   have hcj:l.getD j 0=l[j]:=by rw[List.getD_eq_getElem?_getD,List.getElem?_eq_getElem hjl,Option.getD_some]
   obtain⟨b,off,rfl,hbl,hcl⟩:=HR.o.at_ (by omega)
   have hc2:c<256:=by rw[hc,hcj];exact HR.o.lt _ (zG hjl)
   have hcc:wr.cell? ⟨b,off+j,none⟩=some (.int .u8 (c:Int)):=by rw[hbw.cell (p:=⟨b,off+j,none⟩) hbl,hc,hcj];exact hcl j hjl
   have hst:=Xcx hjl hc
   have hlen:(Xbv (l.take j)).length≤200000:=by rw[Xbs,List.length_take];omega
   have hsz:w.heap.size≤wr.heap.size:=hbw.size
   have ST:=Hd hst;have HO:=Hd hown;have HB:=Hd hbw
   clear hst hown hbw hc hcl hcj hjl
   obtain⟨xs,hxs⟩:=xq (Xbv (l.take j))
   rw[←hxs] at ST HO hlen
   clear hxs
   obtain⟨x,ha⟩:=xq (c/16)
   obtain⟨y,hb⟩:=xq (c%16)
   have i1:=fun w=>Xju x (x:Int) rfl (by omega) w
   have i2:=fun w=>Xju y (y:Int) rfl (by omega) w
   have s1:(c:Int)/16=(x:Int):=by omega
   have s2:Go.bits .and .u8 (c:Int) 15=(y:Int):=by rw[hb];exact Xm7 c hc2
   rw[←ha,←hb] at ST
   have fin:∀(v':Value) (w1:World) (o:Obj),w1.ownsRow p 5 1 v' (xs.length+2) (xs.map U++[U (hxl x),U (hxl y)])→(wr.drew.alloc o).grownBy w1 u3.ownBlock→OW p (Xbv (l.take (j+1))) v' w1∧Bw w w1:=by
    intro v' w1 o ho hg
    refine⟨?_,Xe1 HB.o.drew hsz (by rw[HP.o];exact zL _) HO.o.drew hg⟩
    rw[ST.o];exact OW.app (ys:=[hxl x,hxl y]) rfl rfl ho
   have FIN:=Hd fin
   have hpz:p≤wr.heap.size:=by rw[HP.o];exact hsz
   clear ha hb fin
   go_wp2_with fail
   clear hcc
   go_region_law ((refine step_append_lies _ (by rfl) _ _ _ (by rfl) p 5 i0 _ 1 1 underlying82 hi0 hz0 hz1 hz2 rfl (by omega) u3 xs.length (xs.map U) (by rfl) ((HO.o.drew).alloc _) ⟨wr.heap.size,0,none⟩ 2 2 [.int .u8 (hxl x),.int .u8 (hxl y)] (by rfl) (by rfl) (World.news_of_block (cs:=#[.int .u8 (hxl x),.int .u8 (hxl y)]) (t:=5) (fr:=(0,0)) (zN wr _)) (by simp[Value.oneCell']) (by omega) (by unfold maxLen;omega) (by omega) (by simp;omega) (wr.heap.size+1) (by simp) ?_;intro gg cap' w1 hown1 hgrow hat hlt2))
   all_goals
    have F1:=Hd (FIN.o _ w1 _ hown1 hgrow)
    clear hown1 hgrow hat hlt2
    go_wp2_with fail
    go_roundg (n-(j+1))
    case measure=>omega
    case rel=>exact⟨j+1,by omega,rfl,by go_num,F1.o.1,F1.o.2⟩
  ·have hall:l.take j=l:=List.take_of_length_le (by rw[←HN.o];omega)
   rw[hall] at hown
   have hcv2:=Xnx (P:=prog) 82 9 underlying82 underlying5 underlying9 hown
   have HB:=Hd hbw
   clear hall hown hbw
   go_wp2_with fail
   go_ret
   exact⟨rfl,HB.o⟩
theorem Xwl {l:List Nat}(hl:l.length=16)(j:Nat)(hj:j<16)(c:Nat)(hc:c=l.getD j 0)(w:World):(Instr.index 35 (.agg (idA l)) (.int .i64 (j:Int))).run prog w=.ok (.int .u8 (c:Int)) w:=by
 have hi:(0:Int)≤(j:Int)∧(j:Int)<16:=by omega
 have hjl:j<l.length:=by omega
 have e:(idA l)[j]?=some (U c):=by
  rw[hc];unfold idA
  simp[List.getD,hjl]
 simp[Instr.index,run_underlying underlying35,asIntOf,hi,go_sem]
 rw[qP hj,e]
 rfl
theorem Xkf:(prog.info? 35).map (·.size)=some 16:=by kernel_rfl
theorem Xky (w:World)(g off:Nat)(t:TypeId)(cs:Array Value)(fr:Nat×Nat){l:List Nat}(h:l.length=16)(hg:w.heap[g]?=some (.cells cs t fr))(hp:∀j u,(idA l)[j]?=some u→cs[off+j]?=some u):
    Ld 35 ⟨g,off,none⟩ w (.agg (idA l)):=
 Xff w g off t 35 cs (idA l) fr _ hg underlying35 rfl (by rw[Xag,h];exact Xkf) hp
theorem Xxc (w:World){l:List Nat}(hl:B16 l):
    zJ 37 #[.agg (idA l)] w (.string (Xaq (Xbv l))):=by
 obtain⟨i0,hi0,hz0,hz1,hz2⟩:=info_parts Xhw
 obtain⟨p,hp⟩:=xq w.heap.size
 obtain⟨cs,hcs⟩:=xq (idA l)
 have HL:=Hd hl;have HP:=Hd hp;have HCS:=Hd hcs
 have LD:=Hd (Xky (w.alloc (.cells (idA l) 35)) w.heap.size 0 _ _ _ hl.len (heap_alloc_last w _) (Xhd l))
 rw[←hcs] at LD⊢
 have B0:Hid (Bw w (w.alloc (.cells cs 35))):=Hd ((zR _ _).alloc (zL _) _)
 clear hl hcs
 go_enter func37,ntmps37
 go_upto_region 2 with(at_make;refine Xb9 _ rfl _ _ _ rfl 5 i0 _ 1 underlying82 hi0 hz0 hz1 .i64 .i64 _ _ 0 32 rfl rfl rfl (by omega) (by omega) (by rw[hz2];omega) (by unfold maxLen;omega) ?_;intro ks hks)
 have a1:=World.ownsRow_made (base:=w.heap.size) (e:=5) (size:=1) (w.alloc (.cells cs 35)) ks 32 (by simp) (by unfold maxLen;omega) hks
 have A1:=Hd a1
 have LD1:Hid (Ld 35 ⟨w.heap.size,0,none⟩ ((w.alloc (.cells cs 35)).alloc (.cells ks 5)) (.agg cs)):=Hd (by
  rw[HCS.o];exact Xky _ w.heap.size 0 _ _ _ HL.o.len (Xae (heap_alloc_last w _)) (Xhd l))
 clear a1 hks LD
 refine wp_region_list ?_
 simp only[]
 refine Xac 35 rfl _ rfl ⟨_,_,rfl,LD1.o,?_⟩
 go_wp2_with fail
 go_loopg [3,5,8] 16 (fun k v c i wr=>∃j:Nat,j≤16∧k=16-j∧i=.int .i64 (j:Int)∧OW w.heap.size (Xbv (l.take j)) v wr∧Bw w wr)
 case atStart=>exact⟨0,by omega,rfl,rfl,by have:=A1.o;rw[World.size_alloc] at this;exact this,B0.o.alloc (by simp) _⟩
 case round=>
  obtain⟨j,hj,rfl,rfl,hown,hbw⟩:=hrel
  by_cases h:j<16
  ·obtain⟨c,hc⟩:=xq (l.getD j 0)
   have hjl:j<l.length:=by rw[HL.o.len];exact h
   have hc2:c<256:=by rw[hc,List.getD_eq_getElem?_getD,List.getElem?_eq_getElem hjl,Option.getD_some];exact HL.o.lt _ (zG hjl)
   have ix:∀w,(Instr.index 35 (.agg cs) (.int .i64 (j:Int))).run prog w=.ok (.int .u8 (c:Int)) w:=fun w=>by rw[HCS.o];exact Xwl HL.o.len j h c hc w
   have hst:=Xcx hjl hc
   have hlen:(Xbv (l.take j)).length≤200000:=by rw[Xbs,List.length_take];omega
   have hsz:w.heap.size≤wr.heap.size:=hbw.size
   have ST:=Hd hst;have HO:=Hd hown;have HB:=Hd hbw
   clear hst hown hbw hc hjl
   obtain⟨xs,hxs⟩:=xq (Xbv (l.take j))
   rw[←hxs] at ST HO hlen
   clear hxs
   obtain⟨x,ha⟩:=xq (c/16)
   obtain⟨y,hb⟩:=xq (c%16)
   have i1:=fun w=>Xju x (x:Int) rfl (by omega) w
   have i2:=fun w=>Xju y (y:Int) rfl (by omega) w
   have s1:(c:Int)/16=(x:Int):=by omega
   have s2:Go.bits .and .u8 (c:Int) 15=(y:Int):=by rw[hb];exact Xm7 c hc2
   rw[←ha,←hb] at ST
   have fin:∀(v':Value) (w1:World) (o:Obj),w1.ownsRow w.heap.size 5 1 v' (xs.length+2) (xs.map U++[U (hxl x),U (hxl y)])→(wr.drew.alloc o).grownBy w1 u3.ownBlock→OW w.heap.size (Xbv (l.take (j+1))) v' w1∧Bw w w1:=by
    intro v' w1 o ho hg
    refine⟨?_,Xe1 HB.o.drew hsz (zL _) HO.o.drew hg⟩
    rw[ST.o];exact OW.app (ys:=[hxl x,hxl y]) rfl rfl ho
   have FIN:=Hd fin
   clear ha hb fin
   go_wp2_with fail
   clear ix
   go_region_law ((refine step_append_lies _ (by rfl) _ _ _ (by rfl) w.heap.size 5 i0 _ 1 1 underlying82 hi0 hz0 hz1 hz2 rfl (by omega) u3 xs.length (xs.map U) (by rfl) ((HO.o.drew).alloc _) ⟨wr.heap.size,0,none⟩ 2 2 [.int .u8 (hxl x),.int .u8 (hxl y)] (by rfl) (by rfl) (World.news_of_block (cs:=#[.int .u8 (hxl x),.int .u8 (hxl y)]) (t:=5) (fr:=(0,0)) (zN wr _)) (by simp[Value.oneCell']) (by omega) (by unfold maxLen;omega) (by omega) (by simp;omega) (wr.heap.size+1) (by simp) ?_;intro gg cap' w1 hown1 hgrow hat hlt2))
   all_goals
    have F1:=Hd (FIN.o _ w1 _ hown1 hgrow)
    clear hown1 hgrow hat hlt2
    go_wp2_with fail
    go_roundg (16-(j+1))
    case measure=>omega
    case rel=>exact⟨j+1,by omega,rfl,by go_num,F1.o.1,F1.o.2⟩
  ·have hall:l.take j=l:=List.take_of_length_le (by rw[HL.o.len];omega)
   rw[hall] at hown
   have hcv2:=Xnx (P:=prog) 82 9 underlying82 underlying5 underlying9 hown
   have HB:=Hd hbw
   clear hall hown hbw
   go_wp2_with fail
   go_ret
   exact⟨rfl,HB.o⟩
theorem Yk1 {c v:Nat} (h:hvl c=some v):v<16:=by unfold hvl at h;split at h;· simp at h;omega
                                                split at h;· simp at h;omega
                                                cases h
def hv (c:Nat):Nat:=(hvl c).getD 0
theorem Xp4 {c:Nat}(h:hdB c=true):hvl c=some (hv c)∧hv c<16∧hvz c=(hv c:Int):=by
 unfold hdB at h
 cases hh:hvl c with
 |none=>rw[hh] at h;cases h
 |some v=>exact⟨by simp[hv,hh],by simp[hv,hh];exact Yk1 hh,by simp[hv,hvz,hh]⟩
def uh:List Nat→List Nat
 |a::b::t=>(16*hv a+hv b)::uh t
 |_=>[]
theorem Xhm:∀(n:Nat) (l:List Nat),l.length=2*n→l.all hdB=true→Xjh l=some (uh l)
 |0,l,h,_=>by obtain rfl:=List.length_eq_zero_iff.1 (by simpa using h);rfl
 |n+1,a::b::t,h,hd=>by
  simp only[List.all_cons,Bool.and_eq_true] at hd
  have ih:=Xhm n t (by simp at h;omega) hd.2.2
  simp only[Xjh,(Xp4 hd.1).1,(Xp4 hd.2.1).1,ih,uh]
 |n+1,[_],h,_=>by simp at h;omega
 |n+1,[],h,_=>by simp at h
theorem Xfo:∀(l:List Nat),l.all hdB=false→Xjh l=none
 |[],h=>by simp at h
 |[a],h=>rfl
 |a::b::t,h=>by
  simp only[Xjh]
  by_cases ha:hdB a=true
  ·by_cases hb:hdB b=true
   ·have ht:t.all hdB=false:=by simpa [ha,hb] using h
    rw[Xfo t ht]
    cases hvl a<;>cases hvl b<;>rfl
   ·unfold hdB at hb;simp at hb;rw[hb];cases hvl a<;>rfl
  ·unfold hdB at ha;simp at ha;rw[ha]
theorem Xj8:∀(n:Nat) (l:List Nat),l.length=2*n→(uh l).length=n
 |0,l,h=>by obtain rfl:=List.length_eq_zero_iff.1 (by simpa using h);rfl
 |n+1,a::b::t,h=>by simp only[uh,List.length_cons];rw[Xj8 n t (by simp at h;omega)]
 |n+1,[_],h=>by simp at h;omega
 |n+1,[],h=>by simp at h
theorem Ygy:∀(l:List Nat),l.all hdB=true→∀x∈uh l,x<256
 |[],_,x,hx=>by simp[uh] at hx
 |[a],_,x,hx=>by simp[uh] at hx
 |a::b::t,h,x,hx=>by
  simp only[List.all_cons,Bool.and_eq_true] at h
  simp only[uh,List.mem_cons] at hx
  rcases hx with rfl|hx
  ·have:=(Xp4 h.1).2.1;have:=(Xp4 h.2.1).2.1;omega
  ·exact Ygy t h.2.2 x hx
theorem Yft:∀(n:Nat) (p:List Nat) (a b:Nat),p.length=2*n→uh (p++[a,b])=uh p++[16*hv a+hv b]
 |0,p,a,b,h=>by obtain rfl:=List.length_eq_zero_iff.1 (by simpa using h);rfl
 |n+1,x::y::t,a,b,h=>by simp only[List.cons_append,uh];rw[Yft n t a b (by simp at h;omega)]
 |n+1,[_],_,_,h=>by simp at h;omega
 |n+1,[],_,_,h=>by simp at h
theorem Ygx {l:List Nat}{j a b:Nat}(h:2*j+1<l.length)(ha:a=l.getD (2*j) 0)(hb:b=l.getD (2*j+1) 0):uh (l.take (2*(j+1)))=uh (l.take (2*j))++[16*hv a+hv b]:=by
 rw[List.getD_eq_getElem?_getD,List.getElem?_eq_getElem (by omega),Option.getD_some] at ha hb
 have e:l.take (2*(j+1))=l.take (2*j)++[a,b]:=by
  rw[show 2*(j+1)=2*j+1+1 by omega,List.take_succ_eq_append_getElem h,List.take_succ_eq_append_getElem (by omega),←ha,←hb];simp
 rw[e,Yft j _ a b (by rw[List.length_take];omega)]
theorem Ygw (w:World)(c:Nat)(hc:c<256):Rx 207 #[.int .u8 (c:Int)] w (.bool (hdB c)):=by
 have I:=Hd (fun w=>Xzv w c hc)
 have D:Hid (hdB c=decide (0≤hvz c)):=Hd (by unfold hdB hvz;cases hvl c<;>simp)
 obtain⟨r,hr⟩:=xq (hvz c)
 rw[←hr] at I D
 clear hr
 go_enter func207,ntmps207
 go_wp2_with (go_at_call 147;refine(I.o _).mono ?_;rintro e w' ⟨rfl,rfl⟩)
 go_ret
 exact⟨by rw[D.o];rfl,rfl⟩
theorem Xxn (w:World)(c:Nat)(hc:c<256)(hd:hdB c=true):Rx 208 #[.int .u8 (c:Int)] w (.int .u8 (hv c:Nat)):=by
 have I:=Hd (fun w=>Xzv w c hc)
 rw[(Xp4 hd).2.2] at I
 have hv16:=(Xp4 hd).2.1
 obtain⟨r,hr⟩:=xq (hv c)
 rw[←hr] at I hv16⊢
 have cv:IntKind.u8.wrap (r:Int)=(r:Int):=by rw[IntKind.wrap_u8];omega
 clear hr hd
 go_enter func208,ntmps208
 go_wp2_with (go_at_call 147;refine(I.o _).mono ?_;rintro e w' ⟨rfl,rfl⟩)
 go_ret
 exact⟨rfl,rfl⟩
theorem Xx8 (s:ByteArray)(w:World)(hs:s.size≤1000000)(hd:(bs s).all hdB=true):
    Rx 148 #[.string s,.int .i64 0,.func (.func 207) #[] #[]] w (.int .i64 (s.size:Int)):=by
 have HD:=Hd hd
 clear hd
 go_enter func148,ntmps148
 go_wp2_with fail
 go_loopg [1] s.size (fun k i wr=>∃j:Nat,j≤s.size∧k=s.size-j∧i=.int .i64 (j:Int)∧w=wr)
 case atStart=>exact⟨0,by omega,rfl,rfl,rfl⟩
 case round=>
  obtain⟨j,hj,rfl,rfl,rfl⟩:=hrel
  by_cases hlt:j<s.size
  ·obtain⟨c,hc⟩:=xq ((bs s).getD j 0)
   have hc2:c<256:=by rw[hc];exact Xba s j
   have hdc:hdB c=true:=by
    have hjl:j<(bs s).length:=by rw[Xaa];exact hlt
    rw[hc,List.getD_eq_getElem?_getD,List.getElem?_eq_getElem hjl,Option.getD_some]
    exact List.all_eq_true.1 HD.o _ (zG hjl)
   have xn:∀w,(Instr.index 9 (.string s) (.int .i64 (j:Int))).run prog w=.ok (.int .u8 (c:Int)) w:=fun w=>by rw[Xa5 9 underlying9 s .i64 j j rfl hlt,hc]
   have U:=Hd (fun w=>Ygw w c hc2)
   rw[hdc] at U
   have d1:decide ((j:Int)<(s.size:Int))=true:=by simpa using hlt
   clear hc hdc
   go_wp2_with (go_at_call 207;refine(U.o _).mono ?_;rintro e w' ⟨rfl,rfl⟩)
   go_roundg (s.size-(j+1))
   case measure=>omega
   case rel=>exact⟨j+1,by omega,rfl,by go_num,rfl⟩
  ·obtain rfl:j=s.size:=by omega
   have d1:decide ((s.size:Int)<(s.size:Int))=false:=by simp
   go_wp2_with fail
   go_ret
   exact⟨rfl,rfl⟩
def Ylx (l:List Nat)(n:Nat)(w:World)(e:Ending)(w':World):Prop:=
 ∃v,e=.returned (.tuple #[v,.int .i64 0])∧w'.ownsRow w.heap.size 5 1 v n ((uh l).map U)∧Bw w w'
theorem Xxr (s:ByteArray)(n:Nat)(w:World)(hn:s.size=2*n)(hs:s.size≤1000000)(hd:(bs s).all hdB=true):
    Calls prog 152 #[.string s] w (Ylx (bs s) n w):=by
 obtain⟨i0,hi0,hz0,hz1,hz2⟩:=info_parts Xhw
 have SK:=Hd (fun w=>Xx8 s w hs hd)
 have HD:=Hd hd
 have HN:=Hd hn
 have LEN:=Hd (Xaa s)
 have UL:Hid ((uh (bs s)).length=n):=Hd (Xj8 n _ (by rw[Xaa];exact hn))
 have q0:(s.size:Int)%2=0:=by omega
 have q1:(s.size:Int)/2=(n:Int):=by omega
 have d1:decide ((s.size:Int)<(s.size:Int))=false:=by simp
 have hn2:n≤500000:=by omega
 clear hd hn
 go_enter func152,ntmps152
 go_wp2_with (first
  |(go_at_call 148;refine(SK.o _).mono ?_;rintro e w' ⟨rfl,rfl⟩)
  |(at_make;refine Xb9 _ rfl _ _ _ rfl 5 i0 _ 1 underlying82 hi0 hz0 hz1 .i64 .i64 _ _ 0 n rfl rfl rfl (by omega) (by omega) (by rw[hz2];omega) (by unfold maxLen;omega) ?_;intro cs hcs))
 have a1:=World.ownsRow_made (base:=w.heap.size) (e:=5) (size:=1) w cs n (zL _) (by unfold maxLen;omega) hcs
 have A1:=Hd a1
 clear a1 hcs
 go_loopg [6,7] n (fun k v i wr=>∃j:Nat,j≤n∧k=n-j∧i=.int .i64 ((2*j:Nat):Int)∧OW w.heap.size (uh ((bs s).take (2*j))) v wr∧Bw w wr)
 case atStart=>exact⟨0,by omega,rfl,rfl,A1.o,(zR _ _).alloc (zL _) _⟩
 case round=>
  obtain⟨j,hj,rfl,rfl,hown,hbw⟩:=hrel
  by_cases h:j<n
  ·obtain⟨a,ha⟩:=xq ((bs s).getD (2*j) 0)
   obtain⟨b,hb⟩:=xq ((bs s).getD (2*j+1) 0)
   have hs2:s.size=2*n:=HN.o
   have ha2:a<256:=by rw[ha];exact Xba s _
   have hb2:b<256:=by rw[hb];exact Xba s _
   have dgt:∀k c,k<s.size→c=(bs s).getD k 0→hdB c=true:=fun k c hk hc=>by
    have hkl:k<(bs s).length:=by rw[LEN.o];exact hk
    rw[hc,List.getD_eq_getElem?_getD,List.getElem?_eq_getElem hkl,Option.getD_some]
    exact List.all_eq_true.1 HD.o _ (zG hkl)
   have hda:=dgt (2*j) a (by omega) ha
   have hdb:=dgt (2*j+1) b (by omega) hb
   have xa:∀w,(Instr.index 9 (.string s) (.int .i64 ((2*j:Nat):Int))).run prog w=.ok (.int .u8 (a:Int)) w:=fun w=>by rw[Xa5 9 underlying9 s .i64 _ (2*j) rfl (by omega),ha]
   have xa':∀w,(Instr.index 9 (.string s) (.int .i64 (2*(j:Int)))).run prog w=.ok (.int .u8 (a:Int)) w:=fun w=>by rw[Xa5 9 underlying9 s .i64 _ (2*j) (by omega) (by omega),ha]
   have xb:∀w,(Instr.index 9 (.string s) (.int .i64 (2*(j:Int)+1))).run prog w=.ok (.int .u8 (b:Int)) w:=fun w=>by rw[Xa5 9 underlying9 s .i64 _ (2*j+1) (by omega) (by omega),hb]
   have UA:=Hd (fun w=>Xxn w a ha2 hda)
   have UB:=Hd (fun w=>Xxn w b hb2 hdb)
   have ha16:=(Xp4 hda).2.1
   have hb16:=(Xp4 hdb).2.1
   have ST:=Hd (Ygx (l:=bs s) (j:=j) (by rw[LEN.o];omega) ha hb)
   have hlen:(uh ((bs s).take (2*j))).length≤500000:=by rw[Xj8 j _ (by rw[List.length_take,LEN.o];omega)];omega
   obtain⟨x,hx⟩:=xq (hv a)
   obtain⟨y,hy⟩:=xq (hv b)
   rw[←hx] at UA ha16 ST
   rw[←hy] at UB hb16 ST
   obtain⟨xs,hxs⟩:=xq (uh ((bs s).take (2*j)))
   rw[←hxs] at ST hlen hown
   have HO:=Hd hown;have HB:=Hd hbw
   have hsz:w.heap.size≤wr.heap.size:=hbw.size
   obtain⟨z,hz⟩:=xq (16*x+y)
   rw[←hz] at ST
   have hz256:z<256:=by omega
   have s1:IntKind.u8.wrap ((x:Int)*16)=(x:Int)*16:=by rw[IntKind.wrap_u8];omega
   have s2:Go.bits .or .u8 ((x:Int)*16) (y:Int)=(z:Int):=by
    rw[bits_join .u8 8 (by decide) wraps_u8 4 _ _ (by omega) (by omega) (by omega) (by omega) (by omega) (by omega)];omega
   have d2:decide ((2*(j:Int))<(s.size:Int))=true:=by simp;omega
   have w1:IntKind.i64.wrap (2*(j:Int)+1)=2*(j:Int)+1:=IntWalk.i64_in _ (by omega)
   have w1':IntKind.i64.wrap (((2*j:Nat):Int)+1)=2*(j:Int)+1:=(IntWalk.i64_in _ (by omega)).trans (by omega)
   have RN:Hid (∀(v':Value) (w1:World) (o:Obj),w1.ownsRow w.heap.size 5 1 v' (xs.length+1) (xs.map U++[U z])→(wr.drew.alloc o).grownBy w1 u6.ownBlock→OW w.heap.size (uh ((bs s).take (2*(j+1)))) v' w1∧Bw w w1):=Hd (fun v' w1 o ho hg=>⟨by rw[ST.o];exact OW.app (ys:=[z]) rfl rfl ho,Xe1 HB.o.drew hsz (zL _) HO.o.drew hg⟩)
   have HZ:=Hd hz
   have hsz2:w.heap.size≤wr.drew.heap.size:=hsz
   have HO2:Hid (OW w.heap.size xs u6 wr.drew):=HO
   clear hx hy hxs hown hbw hz ha hb hda hdb dgt hs2
   go_wp2_with fail
   go_region_held3 (fun w'=>True) (trivial) (first|((refine step_append_lies _ (by rfl) _ _ _ (by rfl) w.heap.size 5 i0 _ 1 1 underlying82 hi0 hz0 hz1 hz2 rfl (by omega) u6 xs.length (xs.map U) rfl (HO2.o.alloc _) ⟨wr.drew.heap.size,0,none⟩ 1 1 [.int .u8 z] rfl rfl (World.news_of_block (cs:=#[.int .u8 z]) (t:=5) (fr:=(0,0)) (zN wr.drew _)) (by simp[Value.oneCell']) (by omega) (by unfold maxLen;omega) (by omega) (by simp;omega) _ rfl ?_;intro g cap wq hown1 hgrow hat hlt))|(go_at_call 208;((with_reducible refine(UA.o _).mono ?_);rintro e w' ⟨rfl,rfl⟩))|(go_at_call 208;((with_reducible refine(UB.o _).mono ?_);rintro e w' ⟨rfl,rfl⟩)))
   all_goals
    have F1:=Hd (RN.o _ wq _ hown1 hgrow)
    clear hown1 hgrow hat hlt
    go_wp2_with fail
    go_roundg (n-(j+1))
    case measure=>omega
    case rel=>exact⟨j+1,by omega,rfl,by go_num,F1.o.1,F1.o.2⟩
  ·obtain rfl:j=n:=by omega
   have d2:decide ((2*(j:Int))<(s.size:Int))=false:=by have:=HN.o;simp;omega
   have hall:(bs s).take (2*j)=bs s:=List.take_of_length_le (by rw[LEN.o,HN.o];exact zL _)
   rw[hall] at hown
   have HO:=Hd hown;have HB:=Hd hbw
   clear hall hown hbw
   go_wp2_with fail
   go_ret2
   refine⟨u6,rfl,?_,HB.o⟩
   have:=HO.o
   unfold OW at this
   rwa [UL.o] at this
theorem Xah {P:Program}(w:World)(g off:Nat)(ty:TypeId)(ids:Array Value)(d:TypeDesc)
    (hu:P.underlying ty=some d) (hd:(match d with|.struct _|.array _ _=>true|_=>false)=true) (hi:(P.info? ty).map (·.size)=some ids.size)
    (hp:∀j u,ids[j]?=some u→w.cell? ⟨g,off+j,none⟩=some u):(loadVar ty ⟨g,off,none⟩).run P w=.ok (.agg ids) w:=by
 have hl:(loadCells ⟨g,off,none⟩ ids.toList.length).run P w=.ok ids.toList.toArray w:=
  run_loadCells_list (P:=P) w ⟨g,off,none⟩ ids.toList (fun j u hv=>by
   have hadd:(⟨g,off,none⟩:Addr).add j=⟨g,off+j,none⟩:=by unfold Addr.add;split<;>simp_all
   rw[hadd]
   exact hp j u (by simpa using hv))
 cases hq:P.info? ty with
 |none=>simp[hq] at hi
 |some i=>
  have hs:i.size=ids.size:=by simpa [hq] using hi
  have hagg:(isAgg ty).run P w=.ok true w:=by
   unfold isAgg
   rw[Sem.run_bind,run_underlying hu w]
   cases d<;>simp_all
  simp only[Array.length_toList,Array.toArray_toList] at hl
  simp[loadVar,Sem.run_bind,hagg,sizeOf,typeInfo,hq,hs,hl]
theorem Rd.cells {w:World}{b off:Nat}{l:List Nat}(h:Rd w (some ⟨b,off,none⟩) l):∀j u,(idA l)[j]?=some u→w.cell? ⟨b,off+j,none⟩=some u:=by
 intro j u hu
 unfold idA at hu
 rw[List.getElem?_toArray] at hu
 obtain⟨hj,rfl⟩:=List.getElem?_eq_some_iff.1 hu
 rw[List.length_map] at hj
 obtain⟨b',off',e,_,hc⟩:=h.at_ (by omega)
 cases e
 rw[hc j hj]
 simp
theorem Yf2 (w:World){l:List Nat}(hl:∀x∈l,x<256){t:TypeId}{fr:Nat×Nat}{b:Nat}(hb:w.heap[b]?=some (.cells (idA l) t fr)):Rd w (some ⟨b,0,none⟩) l:=
 ⟨hl,fun _=>⟨b,0,rfl,zY hb,fun i hi=>by rw[Nat.zero_add,cell_of_row w b i _ _ _ hb];simp[idA,hi]⟩⟩
theorem Xts:(prog.info? 184).map (·.size)=some 64:=by kernel_rfl
theorem Xek (l:List Nat):(idA l).all (·.oneCell')=true:=by
 rw[Array.all_eq_true']
 intro x hx
 unfold idA at hx
 simp at hx
 obtain⟨n,_,rfl⟩:=hx
 rfl
theorem Xaf {P:Program}{ops:Array Oper}{rest:List Oper}{o:Oper}{a:Act}{w:World}{Q:Exit→Act→World→Prop}(t:TypeId)(hgd:o.guard=none)(ho:o.op=.build t #[])(h:∃v,(Instr.build t #[]).run P w=.ok v w∧wpList P ops Q rest (a.put o.dst v) w):wpList P ops Q (o::rest) a w:=by
 obtain⟨v,h1,h2⟩:=h
 exact Xas hgd (Xc1 ho (by simpa using h1)) h2
theorem Xuk {l:List Nat}(h:IdOk l):∀x∈Xbv l,x<256:=Xz7 h.lt
theorem Xwu (w:World){l:List Nat}(hl:IdOk l):
    zJ 127 #[.agg (idA l)] w (.agg (idA (Xbv l))):=by
 obtain⟨cs,hcs⟩:=xq (idA l)
 have HX:Hid (∀(w':World),w'.heap[w.heap.size]?=some (.cells cs 26 (0,0))→Calls prog 179 #[.slice (some ⟨w.heap.size,0,none⟩) 32 32] w' fun e w''=>e=.returned (.string (Xaq (Xbv l)))∧Below w'.heap.size w' w''):=Hd (fun w' h=>by
  have:=Yh9 w' (some ⟨w.heap.size,0,none⟩) 32 l (by rw[hl.len];omega) (Yf2 w' hl.lt (by rw[hcs] at h;exact h))
  rw[hl.len] at this
  exact this)
 have SZ:(Xaq (Xbv l)).size=64:=by rw[Xan,Xbs,hl.len]
 have BS:bs (Xaq (Xbv l))=Xbv l:=Xci _ (Xuk hl)
 have LEN:(Xbv l).length=64:=by rw[Xbs,hl.len]
 have HSZ:=Hd SZ;have HBS:=Hd BS;have HLEN:=Hd LEN
 rw[←hcs]
 clear hcs SZ BS LEN hl
 go_enter func127,ntmps127
 go_wp2_with fail
 refine(HX.o _ (by first|exact Xae (zN w _)|exact zN w _)).mono ?_
 rintro e w1 ⟨rfl,hb1⟩
 obtain⟨s,hs⟩:=xq (Xaq (Xbv l))
 rw[←hs] at HSZ HBS⊢
 obtain⟨W,cap,hcv,hrd,hbw,hz⟩:=Xqt s w1
 rw[HSZ.o] at hcv
 obtain⟨zz,hzz,hz64⟩:∃zz,w1.heap[w.heap.size+1]?=some (.cells zz 184 (0,0))∧zz.size=64:=
  ⟨_,(hb1.block (w.heap.size+1) (by simp)).trans (by have:=zN (w.alloc (.cells cs 26)) (.cells (Array.replicate 64 (.int .u8 0)) 184);rw[World.size_alloc] at this;exact this),rfl⟩
 have hb0:Bw w w1:=(((zR _ w).alloc (zL _) _).alloc (by simp) _).trans (hb1.mono (by simp;omega))
 have HZ:=Hd hzz
 have hlt:w.heap.size+1<w1.heap.size:=zY hzz
 have hZW:W.heap[w.heap.size+1]?=some (.cells zz 184 (0,0)):=(hbw.block _ hlt).trans hzz
 have BW:=Hd (hb0.trans (hbw.mono (by omega)))
 have LD:Hid (Ld 184 ⟨w1.heap.size,0,none⟩ W (.agg (idA (Xbv l)))):=Hd (by
  rw[HBS.o] at hrd
  exact Xah W w1.heap.size 0 _ _ _ underlying184 rfl (by rw[Xag,HLEN.o];exact Xts) hrd.cells)
 have ST:=Hd (run_storeVar_row (P:=prog) W (w.heap.size+1) _ 184 zz (idA (Xbv l)) hZW (by rw[Xag,HLEN.o];exact Xts) (by rw[Xag,HLEN.o,hz64]) (Xek _))
 have W2:=Hd (setRow_heap W (w.heap.size+1) zz (idA (Xbv l)) _ _ hZW)
 have B2:=Hd (below_setRow BW.o (show w.heap.size≤w.heap.size+1 by omega) (idA (Xbv l)))
 obtain⟨xs,hxs⟩:=xq (idA (Xbv l))
 rw[←hxs] at LD ST W2 B2
 have HXS:=Hd hxs
 have XL:Hid (xs.size=64):=Hd (by rw[hxs,Xag,HLEN.o])
 clear hb1 hb0 hzz hZW hz64 hrd hbw hz hxs HX hs hlt
 have hat:∀w,(Instr.arrayAt 184 (.slice (some ⟨w1.heap.size,0,none⟩) 64 cap)).run prog w=.ok (.pointer (some ⟨w1.heap.size,0,none⟩)) w:=fun w=>by kernel_rfl
 go_wp2_with (first
  |((with_reducible refine Xac 184 rfl _ rfl ?_);refine⟨_,_,rfl,LD.o,?_⟩)
  |((with_reducible refine Xab 184 rfl _ _ rfl ?_);refine⟨_,_,_,rfl,rfl,ST.o,?_⟩))
 exact zP (v:=.agg xs) (results_cell_row results127 _ _ (w.heap.size+1) _ _ _ _ rfl W2.o underlying184 rfl (by rw[XL.o];exact Xts)) rfl ⟨by rw[HXS.o],B2.o⟩
theorem Xgb (w:World){l:List Nat}(hl:IdOk l):
    zJ 82 #[.agg (idA l)] w (.bool (decide (l=zero32))):=by
 obtain⟨cs,hcs⟩:=xq (idA l)
 obtain⟨zs,hzs⟩:=xq (idA zero32)
 have zok:IdOk zero32:=⟨by simp[zero32],fun x hx=>by simp[zero32] at hx;omega⟩
 have LD:Hid (Ld 26 ⟨w.heap.size,0,none⟩ (w.alloc (.cells cs 26)) (.agg cs)):=Hd (by
  rw[hcs];exact Xkx _ w.heap.size 0 _ _ _ hl.len (heap_alloc_last w _) (Xhd l))
 have BU:Hid (∀w,(Instr.build 26 #[]).run prog w=.ok (.agg zs) w):=Hd (fun w=>by rw[hzs];kernel_rfl)
 have EQ:Hid (∀w,(Op.equal 26 (.agg cs) (.agg zs)).run prog w=.ok (decide (l=zero32)) w):=Hd (fun w=>by rw[hcs,hzs];exact Xqd w hl zok)
 obtain⟨b,hb⟩:=xq (decide (l=zero32))
 rw[←hb] at EQ⊢
 rw[←hcs]
 clear hcs hzs hb hl
 go_enter func82,ntmps82
 go_upto_region 1 with fail
 refine wp_region_list ?_
 simp only[]
 refine Xac 26 rfl _ rfl ⟨_,_,rfl,LD.o,?_⟩
 refine Xaf 26 rfl rfl ⟨_,BU.o _,?_⟩
 refine Xdb 26 rfl _ _ rfl Xeo ⟨cs,zs,b,by kernel_rfl,by kernel_rfl,EQ.o _,?_⟩
 go_wp2_with fail
 go_ret
 exact⟨rfl,(zR _ _).alloc (zL _) _⟩
theorem Yin (w:World)(b off cap:Nat)(l:List Nat)(h:Rd w (some ⟨b,off,none⟩) l):(convert 82 9 (.slice (some ⟨b,off,none⟩) l.length cap)).run prog w=.ok (.string (Xaq l)) w:=by
 refine Xm4 w 82 5 9 underlying82 underlying5 underlying9 b off cap l ?_
 intro i hi
 obtain⟨b',off',e,_,hc⟩:=h.at_ (by omega)
 cases e
 rw[hc i hi]
theorem Xtj (a b:List Nat):Xaq a++Xaq b=Xaq (a++b):=by
 apply ByteArray.ext
 simp[Xaq]
theorem Xmo (w:World){l:List Nat}(hl:IdOk l):
    zJ 79 #[.agg (idA l)] w (.string (Xaq (Xcr l))):=by
 obtain⟨cs,hcs⟩:=xq (idA l)
 have D:=Hd (Xwu (w.alloc (.cells cs 26)) hl)
 have LD:Hid (Ld 26 ⟨w.heap.size,0,none⟩ (w.alloc (.cells cs 26)) (.agg cs)):=Hd (by
  rw[hcs];exact Xkx _ w.heap.size 0 _ _ _ hl.len (heap_alloc_last w _) (Xhd l))
 have LEN:Hid ((Xbv l).length=64):=Hd (by rw[Xbs,hl.len])
 have HOK:=Hd hl
 have MF:Hid (Xaq (Xcr l)=Xaq [60]++Xaq (Xbv l)++Xaq sHash):=Hd (by rw[Xtj,Xtj];rfl)
 rw[←hcs] at D⊢
 clear hcs hl
 go_enter func79,ntmps79
 go_upto_region 1 with fail
 refine wp_region_list ?_
 simp only[]
 refine Xac 26 rfl _ rfl ⟨_,_,rfl,LD.o,?_⟩
 go_wp2_with fail
 refine D.o.mono ?_
 rintro e w1 ⟨rfl,hb1⟩
 obtain⟨xs,hxs⟩:=xq (idA (Xbv l))
 have HXS:=Hd hxs
 have hs64:xs.size=64:=by rw[hxs,Xag,LEN.o]
 have ST:Hid (∀zz:Array Value,zz.size=64→Sv 184 ⟨w1.heap.size,0,none⟩ (.agg xs) (w1.alloc (.cells zz 184)) (w1.alloc (.cells xs 184))):=Hd (fun zz hz=>run_storeVar_new w1 184 zz xs (by rw[hs64];exact Xts) (by rw[hz,hs64]) (by rw[hxs];exact Xek _))
 have hcv:=Yin (w1.alloc (.cells xs 184)) w1.heap.size 0 64 (Xbv l) (Yf2 _ (Xuk (HOK.o)) (by rw[hxs];exact zN w1 _))
 rw[LEN.o] at hcv
 have B1:Hid (Bw w (w1.alloc (.cells xs 184))):=Hd ((((zR _ w).alloc (zL _) _).trans (hb1.mono (by simp))).alloc (by have:=hb1.size;simp at this;omega) _)
 rw[←hxs]
 obtain⟨s,hs⟩:=xq (Xaq (Xbv l))
 have hsz:s.size≤64:=by rw[hs,Xan,LEN.o];exact zL _
 have hsz2:((⟨#[60]⟩:ByteArray)++s).size≤65:=by simp[ByteArray.size_append];show 1+s.size≤65;omega
 rw[←hs] at hcv MF
 clear hb1 hxs hs64 hs D LD
 go_wp2_with ((with_reducible refine Xab 184 rfl _ _ rfl ?_);refine⟨_,_,_,rfl,rfl,ST.o _ rfl,?_⟩)
 go_ret
 exact⟨by rw[MF.o];rfl,B1.o⟩
theorem Xld {l:List Nat}{n j:Nat}(h:j<n):(l.take n).getD j 0=l.getD j 0:=by
 simp only[List.getD_eq_getElem?_getD,List.getElem?_take,qP h]
theorem Xfw {l:List Nat}(n j:Nat):(l.drop n).getD j 0=l.getD (n+j) 0:=by
 simp only[List.getD_eq_getElem?_getD,List.getElem?_drop]
theorem Xhh {p:Nat→Bool}{l:List Nat}(h:∀j,j<l.length→p (l.getD j 0)=true):l.all p=true:=by
 rw[List.all_eq_true]
 intro x hx
 obtain⟨i,hi,rfl⟩:=List.getElem_of_mem hx
 have:=h i hi
 rwa [List.getD_eq_getElem?_getD,List.getElem?_eq_getElem hi,Option.getD_some] at this
theorem Xmq {l:List Nat}(h71:l.length=71)(h:∀j,j<71→Xgu j (l.getD j 0)=true):((l.drop 1).take 64).all hdB=true:=by
 refine Xhh fun j hj=>?_
 rw[List.length_take,List.length_drop] at hj
 rw[Xld (by omega),Xfw]
 have:=h (1+j) (by omega)
 unfold Xgu at this
 rwa [qN (by omega),qP (by omega)] at this
theorem Xud {l:List Nat}(h71:l.length=71)(h:∀j,j<71→Xgu j (l.getD j 0)=true):Xfl l=some (uh ((l.drop 1).take 64)):=by
 have h0:=h 0 (by omega)
 unfold Xgu at h0
 rw[qP (by omega),decide_eq_true_iff] at h0
 have h65:l.drop 65=sHash:=by
  apply List.ext_getElem
  ·rw[List.length_drop,h71];rfl
  ·intro j h1 h2
   have h2':j<6:=h2
   have:=h (65+j) (by omega)
   unfold Xgu at this
   rw[qN (by omega),qN (by omega),decide_eq_true_iff,show 65+j-65=j by omega,←Xfw] at this
   rw[List.getD_eq_getElem?_getD,List.getElem?_eq_getElem h1,Option.getD_some,List.getD_eq_getElem?_getD,List.getElem?_eq_getElem h2,Option.getD_some] at this
   exact this
 unfold Xfl
 rw[qP ⟨h71,h0,h65⟩]
 exact Xhm 32 _ (by rw[List.length_take,List.length_drop,h71];rfl) (Xmq h71 h)
theorem Xzb {l:List Nat}{j:Nat}(hj:j<71)(hl:j<l.length)(h:Xgu j (l.getD j 0)=false):Xfl l=none:=by
 unfold Xfl
 split
 ·rename_i hc
  obtain⟨h71,h0,h65⟩:=hc
  by_cases h1:j<1
  ·obtain rfl:j=0:=by omega
   unfold Xgu at h;rw[qP (by omega),h0] at h;exact absurd h (by decide)
  ·by_cases h2:j<65
   ·unfold Xgu at h
    rw[qN h1,qP h2] at h
    refine Xfo _ ?_
    rw[List.all_eq_false]
    refine⟨l.getD j 0,?_,by rw[h];decide⟩
    have hm:j-1<((l.drop 1).take 64).length:=by rw[List.length_take,List.length_drop];omega
    have:((l.drop 1).take 64)[j-1]=l.getD j 0:=by
     have e:=Xld (l:=l.drop 1) (n:=64) (j:=j-1) (by omega)
     rw[Xfw,show 1+(j-1)=j by omega] at e
     rw[←e,List.getD_eq_getElem?_getD,List.getElem?_eq_getElem hm,Option.getD_some]
    rw[←this];exact zG hm
   ·unfold Xgu at h
    rw[qN h1,qN h2,decide_eq_false_iff_not] at h
    exfalso;apply h
    rw[←h65,Xfw,show 65+(j-65)=j by omega]
 ·rfl
theorem Xn2 {l:List Nat}(h:l.length≠71):Xfl l=none:=by unfold Xfl;rw[qN (fun e=>h e.1)]
theorem Xmp {l id:List Nat}(h:Xfl l=some id):IdOk id:=by
 unfold Xfl at h
 split at h
 ·rename_i hc
  by_cases hd:((l.drop 1).take 64).all hdB=true
  ·rw[Xhm 32 _ (by rw[List.length_take,List.length_drop,hc.1];rfl) hd] at h
   cases h
   exact⟨Xj8 32 _ (by rw[List.length_take,List.length_drop,hc.1];rfl),Ygy _ hd⟩
  ·rw[Xfo _ (by simpa using hd)] at h;cases h
 ·cases h
def Xnb (l:List Nat)(w:World)(e:Ending)(w':World):Prop:=
 ∃(a er:Int),(match Xfl l with
  |some id=>e=.returned (.tuple #[.agg (idA id),.int .i64 a,.int .i64 0])
  |none=>e=.returned (.tuple #[.agg (idA zero32),.int .i64 a,.int .i64 er])∧er≠0)∧Bw w w'
theorem Xat {P:Program}{fn:Func}{p u v:Tmp}{ty:TypeId}(h:fn.results=#[.cell p ty,.tmp u,.tmp v])(tmps:Array Value)(w:World)(g:Nat)(t:TypeId)(cs:Array Value)(fr:Nat×Nat)(d:TypeDesc)
    (hp:tmps.getD p undef=.pointer (some ⟨g,0,none⟩)) (hg:w.heap[g]?=some (.cells cs t fr))
    (hu:P.underlying ty=some d) (hd:(match d with|.struct _|.array _ _=>true|_=>false)=true) (hi:(P.info? ty).map (·.size)=some cs.size):
    (results fn tmps).run P w=.ok (.tuple #[.agg cs,tmps.getD u undef,tmps.getD v undef]) w:=by
 have hp':tmps[p]?.getD undef=.pointer (some ⟨g,0,none⟩):=by simpa using hp
 simp[results,h,hp',asAddr,run_loadVar_row w g t ty cs fr d hg hu hd hi]
theorem zero_ok:IdOk zero32:=⟨by simp[zero32],fun x hx=>by simp[zero32] at hx;omega⟩
theorem Xio (s:ByteArray)(w:World)(hs:s.size≤1000000):
    Calls prog 102 #[.string s] w (Xnb (bs s) w):=by
 obtain⟨zs,hzs⟩:=xq (idA zero32)
 have LEN:=Hd (Xaa s)
 have HZS:=Hd hzs
 have z32:zs.size=32:=by rw[hzs];rfl
 have Z32:=Hd z32
 have BU:Hid (∀w,(Instr.build 26 #[]).run prog w=.ok (.agg zs) w):=Hd (fun w=>by rw[hzs];kernel_rfl)
 have STN:Hid (Sv 26 ⟨w.heap.size,0,none⟩ (.agg zs) (w.alloc (.cells zs 26)) (w.alloc (.cells zs 26))):=Hd (run_storeVar_new w 26 zs zs (by rw[z32];exact Xa3) rfl (by rw[hzs];exact Xek _))
 have RES:Hid (∀(tmps:Array Value),tmps.getD 2 undef=.pointer (some ⟨w.heap.size,0,none⟩)→(results Tryz.f102 tmps).run prog (w.alloc (.cells zs 26))=.ok (.tuple #[.agg zs,tmps.getD 3 undef,tmps.getD 4 undef]) (w.alloc (.cells zs 26))):=Hd (fun tmps h=>
  Xat results102 tmps _ w.heap.size _ zs _ _ h (heap_alloc_last w _) underlying26 rfl (by rw[Z32.o];exact Xa3))
 have B0:Hid (Bw w (w.alloc (.cells zs 26))):=Hd ((zR _ _).alloc (zL _) _)
 have NO:Hid (Xfl (bs s)=none→∀a er:Int,er≠0→Xnb (bs s) w (.returned (.tuple #[.agg zs,.int .i64 a,.int .i64 er])) (w.alloc (.cells zs 26))):=Hd (fun h a er he=>⟨a,er,by rw[h,HZS.o];exact⟨rfl,he⟩,B0.o⟩)
 have BAD:Hid (∀j,j<71→j<s.size→Xgu j ((bs s).getD j 0)=false→Xfl (bs s)=none):=Hd (fun j h1 h2 h3=>Xzb h1 (by rw[LEN.o];exact h2) h3)
 obtain⟨mn,hmn⟩:∃mn:Nat,mn=min s.size 71:=⟨_,rfl⟩
 have hm1:mn≤s.size:=by omega
 have hm2:mn≤71:=by omega
 have HMN:=Hd hmn
 have mi:min (s.size:Int) 71=(mn:Int):=by omega
 have START:Hid (w.alloc (.cells (Array.replicate 32 (.int .u8 0)) 26)=w.alloc (.cells zs 26)):=Hd (by rw[hzs];rfl)
 clear hzs z32 hmn
 go_enter func102,ntmps102
 go_wp2_with fail
 go_loopg [5,10] mn (fun k x i wr=>∃j:Nat,j≤mn∧k=mn-j∧i=.int .i64 (j:Int)∧Hid (∀q,q<j→Xgu q ((bs s).getD q 0)=true)∧w.alloc (.cells zs 26)=wr)
 case atStart=>exact⟨0,by omega,rfl,rfl,(fun q hq=>by omega),START.o.symm⟩
 case round=>
  obtain⟨j,hj,rfl,rfl,hg,rfl⟩:=hrel
  by_cases hlt:j<mn
  ·obtain⟨c,hc⟩:=xq ((bs s).getD j 0)
   have hc2:c<256:=by rw[hc];exact Xba s j
   have xn:∀w,(Instr.index 9 (.string s) (.int .i64 (j:Int))).run prog w=.ok (.int .u8 (c:Int)) w:=fun w=>by rw[Xa5 9 underlying9 s .i64 j j rfl (by omega),hc]
   have F:=Hd (fun w=>Yep w j c (by omega) hc2)
   obtain⟨b,hb⟩:=xq (Xgu j c)
   rw[←hb] at F
   have HB:=Hd hb;have HC:=Hd hc
   clear hc hb
   cases b
   ·have NN:=Hd (NO.o (BAD.o j (by omega) (by omega) (by rw[←HC.o,←HB.o])))
    go_wp2_with (first
     |(go_at_call 151;refine(F.o _).mono ?_;rintro e w' ⟨rfl,rfl⟩)
     |((with_reducible refine Xaf 26 rfl rfl ?_);refine⟨_,BU.o _,?_⟩)
     |((with_reducible refine Xab 26 rfl _ _ rfl ?_);refine⟨_,_,_,rfl,rfl,STN.o,?_⟩))
    exact zP (RES.o _ rfl) rfl (NN.o _ 6 (by decide))
   ·have G2:Hid (∀q,q<j+1→Xgu q ((bs s).getD q 0)=true):=Hd (fun q hq=>by
       by_cases e:q=j
       ·rw[e,←HC.o,←HB.o]
       ·exact hg.o q (by omega))
    go_wp2_with (go_at_call 151;refine(F.o _).mono ?_;rintro e w' ⟨rfl,rfl⟩)
    go_roundg (mn-(j+1))
    case measure=>omega
    case rel=>exact⟨j+1,by omega,rfl,by go_num,G2,rfl⟩
  ·obtain rfl:j=mn:=by omega
   by_cases h1:s.size<71
   ·have NN:=Hd (NO.o (Xn2 (by rw[LEN.o];omega)))
    go_wp2_with (first
     |((with_reducible refine Xaf 26 rfl rfl ?_);refine⟨_,BU.o _,?_⟩)
     |((with_reducible refine Xab 26 rfl _ _ rfl ?_);refine⟨_,_,_,rfl,rfl,STN.o,?_⟩))
    exact zP (RES.o _ rfl) rfl (NN.o _ 4 (by decide))
   ·by_cases h2:71<s.size
    ·have NN:=Hd (NO.o (Xn2 (by rw[LEN.o];omega)))
     go_wp2_with (first
      |((with_reducible refine Xaf 26 rfl rfl ?_);refine⟨_,BU.o _,?_⟩)
      |((with_reducible refine Xab 26 rfl _ _ rfl ?_);refine⟨_,_,_,rfl,rfl,STN.o,?_⟩))
     exact zP (RES.o _ rfl) rfl (NN.o _ 5 (by decide))
    ·have h71:s.size=71:=by omega
     have hj71:j=71:=by have:=HMN.o;omega
     have ME:bs (s.extract 1 65)=((bs s).drop 1).take 64:=by rw[Xbz,List.drop_take]
     have GG:∀q,q<71→Xgu q ((bs s).getD q 0)=true:=fun q hq=>hg.o q (by omega)
     have YES:=Hd (Xud (by rw[LEN.o];exact h71) GG)
     have DG:=Xmq (by rw[LEN.o];exact h71) GG
     have UX:=Hd (Xxr (s.extract 1 65) 32 (w.alloc (.cells zs 26)) (by rw[ByteArray.size_extract];omega) (by rw[ByteArray.size_extract];omega) (by rw[ME];exact DG))
     rw[ME] at UX
     have IDOK:=Hd (Xmp YES.o)
     clear ME GG DG hg hj71 BU STN
     go_wp2_with fail
     refine UX.o.mono ?_
     rintro e w1 ⟨v,rfl,hown,hb1⟩
     obtain⟨ul,hul⟩:=xq (uh (((bs s).drop 1).take 64))
     rw[←hul] at hown YES IDOK
     obtain⟨g,cap,rfl⟩:=ownsRow_succ hown
     have hown':w1.ownsRow (w.alloc (.cells zs 26)).heap.size 5 1 (.slice (some ⟨g,0,none⟩) 32 cap) 32 (ul.map U):=hown
     have UL:Hid (ul.length=32):=Hd IDOK.o.len
     have LD:Hid (Ld 26 ⟨g,0,none⟩ w1 (.agg (idA ul))):=Hd (Xah w1 g 0 _ _ _ underlying26 rfl (by rw[Xag,UL.o];exact Xa3) (by
      intro j u hu
      have hj:j<32:=by
       have:=(Array.getElem?_eq_some_iff.1 hu).1
       rw[Xag,UL.o] at this;exact this
      rw[Nat.zero_add,hown'.cellAt j (by omega)]
      unfold idA at hu
      rw[List.getElem?_toArray] at hu
      exact hu))
     have hz1:w1.heap[w.heap.size]?=some (.cells zs 26 (0,0)):=(hb1.block w.heap.size (by simp)).trans (zN w _)
     have hb0:Bw w w1:=B0.o.trans (hb1.mono (by simp))
     have ST:=Hd (run_storeVar_row (P:=prog) w1 w.heap.size _ 26 zs (idA ul) hz1 (by rw[Xag,UL.o];exact Xa3) (by rw[Xag,UL.o,Z32.o]) (Xek _))
     have W2:=Hd (setRow_heap w1 w.heap.size zs (idA ul) _ _ hz1)
     have B2:=Hd (below_setRow hb0 (zL w.heap.size) (idA ul))
     have hat:∀w,(Instr.arrayAt 26 (.slice (some ⟨g,0,none⟩) (31+1) cap)).run prog w=.ok (.pointer (some ⟨g,0,none⟩)) w:=fun w=>by kernel_rfl
     obtain⟨xs,hxs⟩:=xq (idA ul)
     have XL:Hid (xs.size=32):=Hd (by rw[hxs,Xag,UL.o])
     rw[←hxs] at LD ST W2 B2
     have HXS:=Hd hxs
     clear hown hown' hul hb1 hb0 hz1 hxs RES NO BAD START
     go_wp2_with (first
      |((with_reducible refine Xac 26 rfl _ rfl ?_);refine⟨_,_,rfl,LD.o,?_⟩)
      |((with_reducible refine Xab 26 rfl _ _ rfl ?_);refine⟨_,_,_,rfl,rfl,ST.o,?_⟩))
     exact zP (Xat results102 _ _ w.heap.size _ _ _ _ rfl W2.o underlying26 rfl (by rw[XL.o];exact Xa3)) rfl (by unfold Xnb;rw[YES.o];simp only[];rw[←HXS.o];exact⟨_,0,rfl,B2.o⟩)
theorem Xou {p:Nat→Bool}{l:List Nat}{k c:Nat}(hk:k<l.length)(hc:c=l.getD k 0):(l.take (k+1)).all p=((l.take k).all p&&p c):=by
 rw[List.getD_eq_getElem?_getD,List.getElem?_eq_getElem hk,Option.getD_some] at hc
 rw[List.take_succ_eq_append_getElem hk,List.all_append,←hc];simp
theorem Xs4 {p:Nat→Bool}{l:List Nat}{k c:Nat}(hk:k<l.length)(hc:c=l.getD k 0)(h:p c=false):l.all p=false:=by
 rw[List.getD_eq_getElem?_getD,List.getElem?_eq_getElem hk,Option.getD_some] at hc
 rw[List.all_eq_false];exact⟨_,zG hk,by rw[←hc,h];decide⟩
theorem Ya4 (s:ByteArray)(w:World)(hs:s.size≤1000000):
    Rx 242 #[.string s] w (.int .i64 (Xnf (bs s):Nat)):=by
 have LEN:=Hd (Xaa s)
 by_cases h200:200<s.size
 ·have T:Hid (Xnf (bs s)=5):=Hd (by unfold Xnf;rw[qP (by rw[LEN.o];exact h200)])
  go_enter func242,ntmps242
  go_wp2_with fail
  go_ret
  exact⟨by rw[T.o];rfl,rfl⟩
 ·have P1:=Hd (fun w=>Xcs s ⟨#[32]⟩ w)
  have P2:=Hd (fun w=>Xdr s ⟨#[32]⟩ w (by omega))
  rw[show(⟨#[32]⟩:ByteArray).data.toList=[32] from rfl,Yaa] at P1
  rw[show(⟨#[32]⟩:ByteArray).data.toList=[32] from rfl,Xz9] at P2
  obtain⟨a,ha⟩:=xq (decide ((bs s).head?=some 32))
  obtain⟨b,hb⟩:=xq (decide ((bs s).getLast?=some 32))
  have P1':Hid (∀w,Ry 24 #[.string s,.string ⟨#[32]⟩] w (.bool a)):=Hd (by rw[ha];exact P1.o)
  have P2':Hid (∀w,Ry 139 #[.string s,.string ⟨#[32]⟩] w (.bool b)):=Hd (by rw[hb];exact P2.o)
  have T:Hid (Xnf (bs s)=if(bs s).all prC=false then 6 else if(a||b)=true then 3 else 0):=Hd (by
   unfold Xnf;rw[qN (by rw[LEN.o];exact h200),ha,hb];simp)
  clear P1 P2 ha hb
  go_enter func242,ntmps242
  go_wp2_with fail
  go_loopg [3,9] s.size (fun k c i wr=>∃j:Nat,j≤s.size∧k=s.size-j∧i=.int .i64 (j:Int)∧Hid (((bs s).take j).all prC=true)∧w=wr)
  case atStart=>exact⟨0,by omega,rfl,rfl,rfl,rfl⟩
  case round=>
   obtain⟨j,hj,rfl,rfl,hr,rfl⟩:=hrel
   by_cases hlt:j<s.size
   ·obtain⟨c,hc⟩:=xq ((bs s).getD j 0)
    have hc2:c<256:=by rw[hc];exact Xba s j
    have xn:∀w,(Instr.index 9 (.string s) (.int .i64 (j:Int))).run prog w=.ok (.int .u8 (c:Int)) w:=fun w=>by rw[Xa5 9 underlying9 s .i64 j j rfl hlt,hc]
    have HC:=Hd hc
    have HJ:Hid (j<(bs s).length):=Hd (by rw[LEN.o];exact hlt)
    clear hc
    rcases(by omega:c<32∨(32≤c∧c≤126)∨126<c) with h|⟨h,h2⟩|h
    ·have ST:Hid (Xnf (bs s)=6):=Hd (by rw[T.o,qP (Xs4 HJ.o HC.o (by unfold prC;rw[zW (by omega)];rfl))])
     go_wp2_with fail
     go_ret
     exact⟨by rw[ST.o];rfl,rfl⟩
    ·have ST:Hid (((bs s).take (j+1)).all prC=true):=Hd (by rw[Xou HJ.o HC.o,hr.o];unfold prC;rw[zT h,zT h2];rfl)
     go_wp2_with fail
     go_roundg (s.size-(j+1))
     case measure=>omega
     case rel=>exact⟨j+1,by omega,rfl,by go_num,ST,rfl⟩
    ·have ST:Hid (Xnf (bs s)=6):=Hd (by rw[T.o,qP (Xs4 HJ.o HC.o (by unfold prC;rw[zW (show¬c≤126 by omega),Bool.and_false]))])
     have h3:¬c<32:=by omega
     go_wp2_with fail
     go_ret
     exact⟨by rw[ST.o];rfl,rfl⟩
   ·obtain rfl:j=s.size:=by omega
    have ST:Hid (Xnf (bs s)=if(a||b)=true then 3 else 0):=Hd (by
     rw[T.o,qN];rw[List.take_of_length_le (by rw[LEN.o];exact zL _)] at hr;rw[hr.o];decide)
    clear hr T
    cases a<;>cases b
    all_goals
     go_wp2_with (first
      |(go_at_call 24;refine(P1'.o _).mono ?_;rintro e w' ⟨rfl,h⟩;cases h)
      |(go_at_call 139;refine(P2'.o _).mono ?_;rintro e w' ⟨rfl,h⟩;cases h))
     go_ret
     exact⟨by rw[ST.o];rfl,rfl⟩
def Xox (l:List Nat):Nat:=l.foldl (fun n c=>10*n+(c-48)) 0
theorem Xqe {l:List Nat}{k c:Nat}(hk:k<l.length)(hc:c=l.getD k 0):Xox (l.take (k+1))=10*Xox (l.take k)+(c-48):=by
 rw[List.getD_eq_getElem?_getD,List.getElem?_eq_getElem hk,Option.getD_some] at hc
 rw[List.take_succ_eq_append_getElem hk,Xox,Xox,List.foldl_append,←hc];rfl
theorem Yax {l:List Nat}:∀k,k≤7→(∀j,j<k→l.getD j 0<58)→k≤l.length→Xox (l.take k)<10^k
 |0,_,_,_=>by simp[Xox]
 |k+1,h7,h,hl=>by
  have ih:=Yax k (by omega) (fun j hj=>h j (by omega)) (by omega)
  rw[Xqe (by omega) rfl]
  have:=h k (by omega)
  rw[Nat.pow_succ];omega
theorem Yeu {l:List Nat}(k:Nat)(h7:k≤7)(h:Xox (l.take k)<10^k):Xox (l.take k)<10000000:=Nat.lt_of_lt_of_le h (by
 have:(10:Nat)^k≤10^7:=Nat.pow_le_pow_right (by omega) h7
 simpa using this)
def Yfp (l:List Nat)(w:World)(e:Ending)(w':World):Prop:=
 (match Xlx l with|none=>e=.returned (.tuple #[.int .i64 0,.bool false])|some n=>e=.returned (.tuple #[.int .i64 (n:Int),.bool true]))∧w=w'
theorem Xrs {l:List Nat}(h:l=[]∨7<l.length∨(1<l.length∧l.getD 0 0=48)∨l.all dig=false):Xlx l=none:=by unfold Xlx;rw[qP h]
theorem Ydu {l:List Nat}(h:¬(l=[]∨7<l.length∨(1<l.length∧l.getD 0 0=48)∨l.all dig=false)):Xlx l=some (Xox l):=by unfold Xlx;rw[qN h];rfl
theorem Xsj (s:ByteArray)(w:World)(hs:s.size≤1000000):
    Calls prog 240 #[.string s] w (Yfp (bs s) w):=by
 have LEN:=Hd (Xaa s)
 by_cases h0:s.size=0
 ·obtain rfl:=Xeh h0
  clear h0 hs
  go_enter func240,ntmps240
  go_wp2_with fail
  go_ret2
  exact⟨rfl,rfl⟩
 ·have n0:=Xd2 h0
  by_cases h7:7<s.size
  ·have N:Hid (Xlx (bs s)=none):=Hd (Xrs (.inr (.inl (by rw[LEN.o];exact h7))))
   go_enter func240,ntmps240
   go_wp2_with fail
   go_ret2
   exact⟨by rw[N.o];rfl,rfl⟩
  ·obtain⟨f,hf⟩:=xq ((bs s).getD 0 0)
   have hf2:f<256:=by rw[hf];exact Xba s 0
   have x0:=Yb9 s f hf (by omega)
   have HF:=Hd hf
   clear hf
   by_cases hz:1<s.size∧f=48
   ·have N:Hid (Xlx (bs s)=none):=Hd (Xrs (.inr (.inr (.inl ⟨by rw[LEN.o];exact hz.1,by rw[←HF.o];exact hz.2⟩))))
    obtain⟨hz1,rfl⟩:=hz
    go_enter func240,ntmps240
    go_wp2_with fail
    go_ret2
    exact⟨by rw[N.o];rfl,rfl⟩
   ·have ZN:Hid (¬(1<(bs s).length∧(bs s).getD 0 0=48)):=Hd (by rw[LEN.o,←HF.o];exact hz)
    have NE:Hid (bs s≠[]):=Hd (fun e=>h0 (by rw[←LEN.o,e];rfl))
    have BAD:Hid (∀j c,j<s.size→c=(bs s).getD j 0→dig c=false→Xlx (bs s)=none):=Hd (fun j c h1 h2 h3=>Xrs (.inr (.inr (.inr (Xs4 (by rw[LEN.o];exact h1) h2 h3)))))
    have GOOD:Hid ((∀j,j<s.size→dig ((bs s).getD j 0)=true)→Xlx (bs s)=some (Xox (bs s))):=Hd (fun hd=>Ydu (by
     rintro(h|h|h|h)
     ·exact NE.o h
     ·rw[LEN.o] at h;exact h7 h
     ·exact ZN.o h
     ·rw[List.all_eq_false] at h
      obtain⟨x,hx,hn⟩:=h
      obtain⟨i,hi,rfl⟩:=List.getElem_of_mem hx
      have:=hd i (by rw[←LEN.o];exact hi)
      rw[List.getD_eq_getElem?_getD,List.getElem?_eq_getElem hi,Option.getD_some] at this
      exact hn this))
    have K:¬1<s.size∨(1<s.size∧((f:Int)==48)=false):=by
     by_cases h:1<s.size
     ·exact .inr ⟨h,Xaj (fun e=>hz ⟨h,by omega⟩)⟩
     ·exact .inl h
    clear hz
    rcases K with K|⟨K,q48⟩
    all_goals
     go_enter func240,ntmps240
     go_wp2_with fail
     go_loopg [4,5,25] s.size (fun k n c i wr=>∃j:Nat,j≤s.size∧k=s.size-j∧i=.int .i64 (j:Int)∧n=.int .i64 (Xox ((bs s).take j):Nat)∧Xox ((bs s).take j)<10000000∧Hid (∀q,q<j→dig ((bs s).getD q 0)=true)∧w=wr)
     case atStart=>exact⟨0,by omega,rfl,rfl,rfl,by simp[Xox],(fun q hq=>by omega),rfl⟩
     case round=>
      obtain⟨j,hj,rfl,rfl,rfl,hd,hg,rfl⟩:=hrel
      by_cases hlt:j<s.size
      ·obtain⟨c,hc⟩:=xq ((bs s).getD j 0)
       have hc2:c<256:=by rw[hc];exact Xba s j
       have xn:∀w,(Instr.index 9 (.string s) (.int .i64 (j:Int))).run prog w=.ok (.int .u8 (c:Int)) w:=fun w=>by rw[Xa5 9 underlying9 s .i64 j j rfl hlt,hc]
       have HC:=Hd hc
       have DS:Hid (Xox ((bs s).take (j+1))=10*Xox ((bs s).take j)+(c-48)):=Hd (Xqe (by rw[LEN.o];exact hlt) hc)
       obtain⟨d,hdv⟩:=xq (Xox ((bs s).take j))
       rw[←hdv] at hd DS⊢
       clear hc hdv
       rcases(by omega:c<48∨(48≤c∧c≤57)∨57<c) with h|⟨h,h2⟩|h
       ·have ST:Hid (Xlx (bs s)=none):=Hd (BAD.o j c hlt HC.o (by unfold dig;rw[zW (by omega)];rfl))
        go_wp2_with fail
        go_ret2
        exact⟨by rw[ST.o];rfl,rfl⟩
       ·have G2:Hid (∀q,q<j+1→dig ((bs s).getD q 0)=true):=Hd (fun q hq=>by
           by_cases e:q=j
           ·rw[e,←HC.o];unfold dig;rw[zT h,zT h2];rfl
           ·exact hg.o q (by omega))
        have B2:Hid (Xox ((bs s).take (j+1))<10000000):=Hd (Yeu (j+1) (by omega) (Yax (j+1) (by omega) (fun q hq=>by have:=G2.o q hq;unfold dig at this;simp at this;simpa using(by omega:(bs s)[q]?.getD 0<58)) (by rw[LEN.o];omega)))
        have w1:IntKind.i64.wrap (10*(d:Int)+((c:Int)-48))=10*(d:Int)+((c:Int)-48):=IntWalk.i64_in _ (by omega)
        have h3:¬c<48:=by omega
        have h4:¬57<c:=by omega
        go_wp2_with fail
        go_roundg (s.size-(j+1))
        case measure=>omega
        case rel=>exact⟨j+1,by omega,rfl,by go_num,by rw[DS.o];first|rfl|(congr 1;omega),B2.o,G2,rfl⟩
       ·have ST:Hid (Xlx (bs s)=none):=Hd (BAD.o j c hlt HC.o (by unfold dig;rw[zW (show¬c≤57 by omega),Bool.and_false]))
        have h3:¬c<48:=by omega
        go_wp2_with fail
        go_ret2
        exact⟨by rw[ST.o];rfl,rfl⟩
      ·obtain rfl:j=s.size:=by omega
       have ST:Hid (Xlx (bs s)=some (Xox (bs s))):=Hd (GOOD.o hg.o)
       rw[List.take_of_length_le (by rw[LEN.o];exact zL _)]
       clear hd
       go_wp2_with fail
       go_ret2
       exact⟨by rw[ST.o];rfl,rfl⟩
def WS (w:World)(b:Nat)(t:ByteArray)(st en:Nat)(at_:Int)(er:Nat):Prop:=
 w.heap[b]?=some (.cells #[.string t,.int .i64 (st:Int),.int .i64 (en:Int),.int .i64 at_,.int .i64 (er:Int)] 207 (0,0))∧en≤t.size
theorem WS.lt {w:World}{b:Nat}{t:ByteArray}{st en:Nat}{at_:Int}{er:Nat}(h:WS w b t st en at_ er):b<w.heap.size:=zY h.1
theorem WS.below {w w':World}{b:Nat}{t:ByteArray}{st en:Nat}{at_:Int}{er:Nat}(h:WS w b t st en at_ er)(hb:Bw w w'):WS w' b t st en at_ er:=⟨(hb.block b h.lt).trans h.1,h.2⟩
theorem Fr1.setC {b j:Nat}{w:World}(u:Value):Fr1 b w (w.setCell ⟨b,j,none⟩ u):=
 ⟨rfl,rfl,rfl,by simp[World.setCell],fun k _ hne=>Below.heap_setCell _ _ _ _ hne⟩
def Yfo (w:World)(b:Nat)(t:ByteArray)(st en er n:Nat)(e:Ending)(w':World):Prop:=
 (∃v,e=.returned v)∧(∃a,WS w' b t st en a (fe er n))∧Fr1 b w w'
theorem Xb8 (w:World)(b:Nat)(t:ByteArray)(st en:Nat)(at_:Int)(er:Nat)(h:WS w b t st en at_ er)(k:Int)(n:Nat):
    Calls prog 142 #[.pointer (some ⟨b,0,none⟩),.int .i64 k,.int .i64 (n:Int)] w (Yfo w b t st en er n):=by
 have hc4:w.cell? ⟨b,4,none⟩=some (.int .i64 (er:Int)):=cell_of_row w b 4 _ _ _ h.1
 have hc3:w.cell? ⟨b,3,none⟩=some (.int .i64 at_):=cell_of_row w b 3 _ _ _ h.1
 have hf3:w.frozen? ⟨b,3,none⟩=false:=by have:=h.1;simp[World.frozen?,this]
 have hf4:w.frozen? ⟨b,4,none⟩=false:=by have:=h.1;simp[World.frozen?,this]
 have H:=Hd h
 clear h
 by_cases h0:er=0
 ·subst h0
  by_cases hn:n=0
  ·subst hn
   go_enter func142,ntmps142
   go_wp2_with fail
   go_end0
   exact⟨⟨_,rfl⟩,⟨_,H.o⟩,Fr1.refl _ _⟩
  ·have hz:((n:Int)==0)=false:=Xaj (by omega)
   have hz2:((n:Int) !=0)=true:=by simp[bne,hz]
   have HN:=Hd hn
   have S2:Hid (WS ((w.setCell ⟨b,3,none⟩ (.int .i64 k)).setCell ⟨b,4,none⟩ (.int .i64 (n:Int))) b t st en k n):=Hd ⟨Xd8 (Xd8 H.o.1 3 _) 4 _,H.o.2⟩
   clear hn
   go_enter func142,ntmps142
   go_wp2_with fail
   go_end0
   exact⟨⟨_,rfl⟩,⟨_,S2.o⟩,(Fr1.setC _).trans (Fr1.setC _)⟩
 ·have hz:((er:Int)==0)=false:=Xaj (by omega)
  have HE:Hid (fe er n=er):=Hd (by unfold fe;rw[qP h0])
  clear h0
  go_enter func142,ntmps142
  go_wp2_with fail
  go_end0
  exact⟨⟨_,rfl⟩,⟨_,by rw[HE.o];exact H.o⟩,Fr1.refl _ _⟩
theorem Ya3 (t:ByteArray)(c:UInt8)(hs:t.size<4294967281):
    ∃(x y:ByteArray) (b:Bool),(bs x=Xi2 c.toNat (bs t)∧bs y=(bs t).drop ((Xi2 c.toNat (bs t)).length+1)∧b=decide ((Xi2 c.toNat (bs t)).length<(bs t).length)∧x.size≤t.size)∧
     ∀w:World,(∃m,w.cell? ⟨2,0,none⟩=some (.int .i64 m))→Rz 51 #[.string t,.string ⟨#[c]⟩] w (.tuple #[.string x,.string y,.bool b]):=by
 refine⟨⟨(Lib.cut t.data.toList [c]).1.toArray⟩,⟨(Lib.cut t.data.toList [c]).2.1.toArray⟩,(Lib.cut t.data.toList [c]).2.2,⟨?_,?_,?_,?_⟩,?_⟩
 case refine_5=>
  rintro w ⟨m,hm⟩
  exact(Xgs t ⟨#[c]⟩ m w hs hm).mono fun e w' ⟨h1,h2⟩=>⟨h1,h2⟩
 all_goals
  have hix:=Lib.index_one t.data.toList c
  unfold Lib.cut
  rw[hix]
  by_cases h:Lib.indexByte t.data.toList c=-1
  ·have hn:=Xen h
   rw[h]
   simp only[show¬(0:Int)≤-1 by decide,if_false]
   have hu:Xi2 c.toNat (bs t)=bs t:=hn
   first
    |(rw[Xjo];exact hu.symm)
    |(rw[Xjo,hu,List.drop_of_length_le (by omega)];rfl)
    |(rw[hu];simp)
    |exact zL _
  ·have hge:=Lib.index_ge t.data.toList [c]
   rw[hix] at hge
   obtain⟨i,hi⟩:∃i:Nat,Lib.indexByte t.data.toList c=i:=⟨(Lib.indexByte t.data.toList c).toNat,by omega⟩
   obtain⟨h3,h4,h5⟩:=Xem hi
   rw[hi]
   have hl:t.data.toList.length=(bs t).length:=by simp[bs]
   have hu:Xi2 c.toNat (bs t)=(bs t).take i:=h3
   have hul:(Xi2 c.toNat (bs t)).length=i:=by rw[hu,List.length_take];omega
   simp only[show(0:Int)≤(i:Int) from Int.natCast_nonneg i,if_true,Int.toNat_natCast,List.length_singleton]
   first
    |(rw[Xjo,hu,List.map_take];rfl)
    |(rw[Xjo,hul,List.map_drop];rfl)
    |(rw[hul];simp;omega)
    |(rw[←Xaa,Xjo,←Xaa];simp[bs];omega)
theorem Dr.fr {b:Nat}{w w':World}(h:Dr w w'):Fr1 b w w':=Fr1.of_below (Dr.below h)
theorem Xbu {b:Nat}{w w':World}(hE:Env w)(hb:9≤b)(h:Fr1 b w w'):Env w':=hE.below (h.below hE.size hb) (zL _)
def Yb2 (w:World)(b:Nat)(t:ByteArray)(st en:Nat)(er:Nat)(e:Ending)(w':World):Prop:=
 ∃(x:ByteArray) (ok:Bool) (st' en':Nat) (a:Int) (er':Nat),e=.returned (.tuple #[.string x,.bool ok])∧WS w' b t st' en' a er'∧Fr1 b w w'∧x.size≤t.size∧
  ((ok=false∧er'≠0∧∀k,fe er (nxt ((bs t).drop en) k)=er')∨
   (ok=true∧er=0∧er'=0∧∀k,nxt ((bs t).drop en) k=k (bs x) ((bs t).drop en')))
theorem Xf8 (w:World)(b:Nat)(t:ByteArray)(st en:Nat)(at_:Int)(er:Nat)(h:WS w b t st en at_ er)(hE:Env w)(hb9:9≤b)(ht:t.size≤1000000):
    Calls prog 239 #[.pointer (some ⟨b,0,none⟩)] w (Yb2 w b t st en er):=by
 have hc0:w.cell? ⟨b,0,none⟩=some (.string t):=cell_of_row w b 0 _ _ _ h.1
 have hc2:w.cell? ⟨b,2,none⟩=some (.int .i64 (en:Int)):=cell_of_row w b 2 _ _ _ h.1
 have hc4:w.cell? ⟨b,4,none⟩=some (.int .i64 (er:Int)):=cell_of_row w b 4 _ _ _ h.1
 have hc1:w.cell? ⟨b,1,none⟩=some (.int .i64 (st:Int)):=cell_of_row w b 1 _ _ _ h.1
 have hf1:w.frozen? ⟨b,1,none⟩=false:=by have:=h.1;simp[World.frozen?,this]
 have hen:=h.2
 have H:=Hd h;have HE:=Hd hE;have LEN:=Hd (Xaa t)
 clear h hE
 by_cases h0:er=0
 ·subst h0
  by_cases hq:en=t.size
  ·have hz:((en:Int)==(t.size:Int))=true:=by rw[hq];simp
   have FL:=Hd (fun n:Nat=>Xb8 (w.drewN n) b t st en at_ 0 (H.o.below (Dr.below ⟨n,rfl⟩)) (t.size:Int) 4)
   have DR:Hid (((bs t).drop en)=[]):=Hd (by rw[List.drop_eq_nil_iff,LEN.o];omega)
   clear hq
   have hc4':w.cell? ⟨b,4,none⟩=some (.int .i64 0):=hc4
   clear hc4
   go_enter func239,ntmps239
   go_upto_region 1 with fail
   go_quiet (fail)
   go_wp2_with fail
   refine(FL.o _).mono ?_
   rintro e w1 ⟨⟨v,rfl⟩,⟨a,h1⟩,hfr⟩
   have H1:Hid (WS w1 b t st en a 4):=Hd h1
   have F1:Hid (Fr1 b w w1):=Hd ((Dr.fr ⟨nq,rfl⟩).trans hfr)
   have hc5:w1.cell? ⟨b,4,none⟩=some (.int .i64 4):=cell_of_row w1 b 4 _ _ _ h1.1
   clear h1 hfr FL hc0 hc1 hc2 hc4' hf1
   go_wp2_with fail
   go_ret2
   exact⟨⟨#[]⟩,false,st,en,a,4,rfl,H1.o,F1.o,Nat.zero_le _,.inl ⟨rfl,by decide,fun k=>by rw[DR.o];rfl⟩⟩
  ·have hlt:en<t.size:=by omega
   have hz:((en:Int)==(t.size:Int))=false:=Xaj (by omega)
   obtain⟨t1,ht1⟩:=xq (t.extract (en+1) t.size)
   have hts:t1.size=t.size-(en+1):=by rw[ht1,ByteArray.size_extract];omega
   have hb1:bs t1=(bs t).drop (en+1):=by rw[ht1,Xbz,List.take_of_length_le (by rw[LEN.o];exact zL _)]
   obtain⟨x,y,ok,⟨hx,hy,hok,hxs⟩,hcut⟩:=Ya3 t1 32 (by omega)
   have hc4':w.cell? ⟨b,4,none⟩=some (.int .i64 0):=hc4
   have HT:=Hd ht1
   have hxl:(bs x).length=x.size:=Xaa x
   have EN:Hid (en+1+x.size≤t.size):=Hd (by omega)
   have DROP:Hid (∀k,nxt ((bs t).drop en) k=k (bs x) ((bs t).drop (en+1+x.size))):=Hd (fun k=>by
    rw[show(bs t).drop en=(bs t)[en]'(by rw[LEN.o];exact hlt)::(bs t).drop (en+1) from List.drop_eq_getElem_cons _]
    unfold nxt
    simp only[]
    rw[←hb1]
    have e1:(bs t1).takeWhile (fun c=>!decide (c=32))=bs x:=hx.symm
    have e2:(bs t1).dropWhile (fun c=>!decide (c=32))=(bs t).drop (en+1+x.size):=by
     have:=List.takeWhile_append_dropWhile (p:=fun c=>!decide (c=32)) (l:=bs t1)
     rw[e1] at this
     have e3:(bs t1).drop x.size=(bs t1).dropWhile (fun c=>!decide (c=32)):=by
      conv=>lhs;rw[←this]
      rw[List.drop_append,←hxl,List.drop_length,Nat.sub_self];rfl
     rw[←e3,hb1,List.drop_drop]
    rw[e1,e2])
   have hxt:x.size≤t.size:=by omega
   have HCUT:=Hd hcut
   clear hc4 hq hb1 hts hx hy hok hxs hcut ht1 hxl
   go_enter func239,ntmps239
   go_upto_region 1 with fail
   go_quiet (fail)
   obtain⟨w0,hw0⟩:=xq (w.drewN nq)
   have H0:Hid (WS w0 b t st en at_ 0):=Hd (by rw[hw0];exact H.o.below (Dr.below ⟨nq,rfl⟩))
   have F0:Hid (Fr1 b w w0):=Hd (by rw[hw0];exact Dr.fr ⟨nq,rfl⟩)
   rw[←hw0]
   clear hw0 hc0 hc1 hc2 hc4' hf1 H
   have hc2:w0.cell? ⟨b,2,none⟩=some (.int .i64 (en:Int)):=cell_of_row w0 b 2 _ _ _ H0.o.1
   have hc4:w0.cell? ⟨b,4,none⟩=some (.int .i64 0):=cell_of_row w0 b 4 _ _ _ H0.o.1
   have hc1:w0.cell? ⟨b,1,none⟩=some (.int .i64 (st:Int)):=cell_of_row w0 b 1 _ _ _ H0.o.1
   have hf1:w0.frozen? ⟨b,1,none⟩=false:=by have:=H0.o.1;simp[World.frozen?,this]
   go_upto_region 6 with fail
   obtain⟨w1,hw1⟩:=xq (w0.setCell ⟨b,1,none⟩ (.int .i64 ((en:Int)+1)))
   have H1:Hid (WS w1 b t (en+1) en at_ 0):=Hd (by rw[hw1];exact⟨Xd8 H0.o.1 1 _,H0.o.2⟩)
   have F1:Hid (Fr1 b w w1):=Hd (by rw[hw1];exact F0.o.trans (Fr1.setC _))
   rw[←hw1]
   clear hw1 hc1 hc2 hc4 hf1
   have hc0:w1.cell? ⟨b,0,none⟩=some (.string t):=cell_of_row w1 b 0 _ _ _ H1.o.1
   have hc1:w1.cell? ⟨b,1,none⟩=some (.int .i64 ((en:Int)+1)):=cell_of_row w1 b 1 _ _ _ H1.o.1
   have CUT:Hid (∀n,Calls prog 51 #[.string t1,.string ⟨#[32]⟩] (w1.drewN n) fun e w'=>e=.returned (.tuple #[.string x,.string y,.bool ok])∧∃m,w'=w1.drewN m):=Hd (fun n=>
    (HCUT.o (w1.drewN n) ((Xbu HE.o hb9 F1.o).on (Dr.below ⟨n,rfl⟩)).mx).mono fun e w' ⟨h1,q,h2⟩=>⟨h1,n+q,by rw[h2,Xb2]⟩)
   go_quiet (first|(go_at_call 51;rw[show t.extract (en+1) t.size=t1 from HT.o.symm];exact CUT.o _))
   obtain⟨w2,hw2⟩:=xq (w1.drewN nq)
   have H2:Hid (WS w2 b t (en+1) en at_ 0):=Hd (by rw[hw2];exact H1.o.below (Dr.below ⟨nq,rfl⟩))
   have F2:Hid (Fr1 b w w2):=Hd (by rw[hw2];exact F1.o.trans (Dr.fr ⟨nq,rfl⟩))
   rw[←hw2]
   clear hw2 hc0 hc1
   have hc1:w2.cell? ⟨b,1,none⟩=some (.int .i64 ((en:Int)+1)):=cell_of_row w2 b 1 _ _ _ H2.o.1
   have hc2:w2.cell? ⟨b,2,none⟩=some (.int .i64 (en:Int)):=cell_of_row w2 b 2 _ _ _ H2.o.1
   have hf2:w2.frozen? ⟨b,2,none⟩=false:=by have:=H2.o.1;simp[World.frozen?,this]
   have H3:Hid (WS (w2.setCell ⟨b,2,none⟩ (.int .i64 ((en:Int)+1+(x.size:Int)))) b t (en+1) (en+1+x.size) at_ 0):=Hd ⟨Xd8 H2.o.1 2 _,EN.o⟩
   go_wp2_with fail
   go_ret2
   exact⟨x,true,en+1,en+1+x.size,at_,0,rfl,H3.o,F2.o.trans (Fr1.setC _),hxt,.inr ⟨rfl,rfl,rfl,DROP.o⟩⟩
 ·have hz:((er:Int)==0)=false:=Xaj (by omega)
  have hz2:((er:Int) !=0)=true:=by simp[bne,hz]
  have HX:Hid (∀k,fe er (nxt ((bs t).drop en) k)=er):=Hd (fun k=>by unfold fe;rw[qP h0])
  have H0:=Hd h0
  clear h0
  go_enter func239,ntmps239
  go_upto_region 1 with fail
  go_quiet (fail)
  go_wp2_with fail
  go_ret2
  exact⟨⟨#[]⟩,false,st,en,at_,er,rfl,H.o.below (Dr.below ⟨nq,rfl⟩),Dr.fr ⟨nq,rfl⟩,Nat.zero_le _,.inl ⟨rfl,H0.o,HX.o⟩⟩
end Go.Proofs.YtjolcnopipbkhaaGreatDoor
