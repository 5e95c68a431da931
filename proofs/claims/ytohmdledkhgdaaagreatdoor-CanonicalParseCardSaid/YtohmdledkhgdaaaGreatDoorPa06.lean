/- utf8.Printable. -/
import Derived.Test.YtohmdledkhgdaaaGreatDoorPa04
import Derived.Shelf.Strings.Builder1
import Derived.Shelf.Strings.Builder2
import Derived.Shelf.Strings.OnBuilder
import Derived.Shelf.Small.Strs
import Derived.Shelf.Small.Wraps
import Derived.Shelf.Strings.BuilderF
import Derived.Shelf.Utf8.RuneCount
import Derived.Shelf.Strconv.Itoa0
import Derived.Shelf.Strconv.Itoa1
import Derived.Shelf.LaysM
import Derived.Shelf.Strconv.Itoa2
import Derived.Shelf.Strconv.Itoa3
import Derived.Shelf.Strings.Search1
import Derived.Shelf.Strings.Search2
import Derived.Shelf.Strings.Search3
import Derived.Shelf.Strings.Cut
import Derived.Shelf.Strings.Count
import Derived.Shelf.Strings.Shaped
import Derived.Shelf.Strings.Prefix
import Derived.Shelf.Strings.Split
import Derived.Shelf.Strings.SplitShaped
import Derived.Shelf.Unicode.Decode
import Derived.Shelf.Strings.RuneCount
import Derived.Shelf.Strings.Explode
import Derived.Shelf.Bits.Mul64
import Derived.Shelf.Strings.Repeat
import Derived.Shelf.Unicode.DecodeSlow
import Derived.Shelf.Unicode.DecodeAny
import Derived.Shelf.Slices.Turned
import Derived.Shelf.Slices.Equal
import Derived.Shelf.Slices.Clone
import Derived.Shelf.Slices.Empties2
import Derived.Shelf.SlicesE.Clone
import Derived.Lib.Split
import Derived.Lib.SplitLaws
import Derived.Lib.Join
import Derived.Lib.IndexBytes
import Derived.Lib.ItoaMem
namespace Go.Proofs.YtohmdledkhgdaaaGreatDoor
open Go.RowKit Go.Shelf
attribute [local go_sem] Oper.semAt_some
set_option linter.unusedVariables false
set_option maxRecDepth 100000
theorem Ydb (F:Fence) (n:Nat) (h37:F.fn 142) (hro:F.round=none) (s:ByteArray) (w:World):
    CallsIn F n Tryz.prog 142 #[.string s] w fun e w'=>e=.returned (.func (.func 180) #[] #[.pointer (some ⟨w.heap.size,0,none⟩)])∧w'=w.alloc (.cells #[.string s] 9):=by
 refine callsIn_of_wp Tryz.func142 rfl h37 ?_ hro
 simp only[Tryz.ntmps142,List.size_toArray,List.length_cons,List.length_nil,Nat.reduceAdd,Nat.reduceSub,Array.replicate_succ,Array.replicate_zero,List.push_toArray,List.append_toArray,List.nil_append,List.cons_append]
 gi_wp2
 go_ret
 exact⟨rfl,rfl⟩
theorem Xn4 (n:Nat) (hn:1≤n) (Bs:Nat) (s:ByteArray) (hs:s.size≤maxLen) (w:World) (hB:Bs<w.heap.size) (hc:w.cell? ⟨Bs,0,none⟩=some (.string s)):
    SeqStopsK Fence.wide n Tryz.prog 180 #[.pointer (some ⟨Bs,0,none⟩)] rnV (KeepB Bs) (fun ys=>ys=rns (bs s)) (fun pre=>∃q,pre++q=rns (bs s)) (s.size+1) w:=fun l J Jx W hW hJ _ hY h0=>
 Yei n hn l Bs W.heap.size s hs J Jx hJ hY W ((hW.cell (p:=⟨Bs,0,none⟩) hB).trans hc) h0
theorem Xqi {W w2:World} (hb:Below W.heap.size W w2) (B:Nat):KeepsFrom B W w2:=⟨hb.size,fun k o _ hk _=>(hb.block k (lt_of_block hk)).trans hk⟩
theorem Xcq {W w2:World} {B:Nat} {t:TypeId} {v:Value} (h:Boxed W B t v) (hb:Below W.heap.size W w2):Boxed w2 B t v:=(hb.block B h.lt).trans h
theorem Xc6 (B:Nat) {β:Type} (p:β→Prop):OwnFrom B (fun s (_:World)=>Hid (p s)):=fun _ _ _ _ hs _ _=>hs
theorem Xva {W:World} {B:Nat} {t:TypeId} {v:Value} (h:Boxed W B t v):Boxed (W.setCell ⟨B,0,none⟩ v) B t v:=Xd0 h 0 v
def PrI (w:World) (p:Nat) (s:ByteArray) (pre:List (Nat×Nat)) (W:World):Prop:=
 Boxed W p 4 (.bool false)∧(Boxed W (p+1) 9 (.string s)∧(Hid (pre.all (fun x=>gd false x.2)=true)∧Below p w W))
def PrX (w:World) (p:Nat) (s:ByteArray) (c:Code) (pre:List (Nat×Nat)) (W:World):Prop:=
 Boxed W p 4 (.bool false)∧(Hid (c=.ret∧pre.all (fun x=>gd false x.2)=false)∧Below p w W)
theorem PrI.own (w:World) (p:Nat) (s:ByteArray) (hp:p≤w.heap.size) (B:Nat) (hB:p≤B):OwnFrom B (PrI w p s):=
 OwnFrom.and (Own.from (boxed_own p 4 (fun _=>.bool false)) _) (OwnFrom.and (Own.from (boxed_own (p+1) 9 (fun _=>.string s)) _) (OwnFrom.and (Xc6 B _) (ownFrom_below hp hB)))
theorem PrX.own (w:World) (p:Nat) (s:ByteArray) (c:Code) (hp:p≤w.heap.size) (B:Nat) (hB:p≤B):OwnFrom B (PrX w p s c):=
 OwnFrom.and (Own.from (boxed_own p 4 (fun _=>.bool false)) _) (OwnFrom.and (Xc6 B _) (ownFrom_below hp hB))
set_option maxHeartbeats 4000000 in
theorem Xtp (s:ByteArray) (w:World) (hs:s.size≤maxLen):
    Calls Tryz.prog 100 #[.string s] w fun e w'=>e=.returned (.bool (Xhg false (bs s)))∧Below w.heap.size w w':=by
 have V:=Hd (Xto s (w.alloc (.cells #[.bool false] 4)) hs)
 obtain⟨vb,hvb⟩:∃vb,vb=vld (bs s):=⟨_,rfl⟩
 rw[←hvb] at V
 have G:Hid (Xhg false (bs s)=(vb&&(rns (bs s)).all fun x=>gd false x.2)):=Hd (by rw[hvb];rfl)
 have HS:=Hd hs
 clear hvb hs
 cases vb
 ·go_enter Tryz.func100,Tryz.ntmps100
  go_wp2_with (go_at_call 141;refine V.out.mono ?_;rintro e w1 ⟨rfl,hd⟩;obtain⟨q,rfl⟩:=hd)
  have hb:=((Boxed.new w 4 (.bool false)).cell)
  refine bodyPost_ret (v:=.bool false) (by simp[results,Tryz.f100,go_sem]) rfl ⟨by rw[G.out];rfl,?_⟩
  exact(((Below.refl _ w).alloc (Nat.le_refl _) _).trans ((Dr.below ⟨q,rfl⟩).mono (by simp))).setCell (p:=⟨w.heap.size,0,none⟩) (Nat.le_refl _) _
 ·refine(callsIn_wide (n:=5)).1 ?_
  refine callsIn_of_wp_marks Tryz.func100 rfl trivial ?_ rfl
  simp only[Tryz.ntmps100,List.size_toArray,List.length_cons,List.length_nil,Nat.reduceAdd,Nat.reduceSub,Array.replicate_succ,Array.replicate_zero,List.push_toArray,List.append_toArray,List.nil_append,List.cons_append]
  gi_wp2_with (refine⟨trivial,?_⟩;gi_at_call 141;refine(callsIn_wide.2 V.out).mono ?_;rintro e w1 ⟨rfl,hd⟩;obtain⟨q,rfl⟩:=hd)
  refine⟨trivial,?_⟩
  gi_at_call 142
  refine(Ydb Fence.wide _ trivial rfl _ _).mono ?_
  rintro e w' ⟨rfl,rfl⟩
  gi_wp2
  obtain⟨p,hp⟩:∃p,p=w.heap.size:=⟨_,rfl⟩
  obtain⟨W0,hW0⟩:∃W0,(((w.alloc (.cells #[.bool false] 4)).drewN q).alloc (.cells #[.string s] 9))=W0:=⟨_,rfl⟩
  have z0:W0.heap.size=p+2:=by rw[←hW0,hp];simp
  have i0':PrI w p s [] W0:=by
   rw[←hW0,hp]
   refine⟨?_,?_,Hd rfl,?_⟩
   ·exact Xcq (Xcq (Boxed.new w 4 (.bool false)) (Dr.below ⟨q,rfl⟩)) ((Below.refl _ _).alloc (Nat.le_refl _) _)
   ·have:=Boxed.new ((w.alloc (.cells #[.bool false] 4)).drewN q) 9 (.string s)
    simpa using this
   ·exact(((Below.refl _ w).alloc (Nat.le_refl _) _).trans ((Dr.below ⟨q,rfl⟩).mono (by simp))).alloc (by simp) _
  rw[hW0,←hp]
  have hc0:W0.cell? ⟨p+1,0,none⟩=some (.string s):=i0'.2.1.cell
  have HP:=Hd hp
  clear hW0 hp V
  refine wpIn_rangeFunc_ownF (F:=Fence.wide) (n:=5) rfl (by omega) (gf:=180) (lb:=#[.pointer (some ⟨p+1,0,none⟩)]) rfl trivial (enters_of Tryz.func180 (by kernel_rfl) rfl)
   (Xn4 4 (by omega) (p+1) s HS.out W0 (by omega) hc0) (fun h k=>Eq.trans k h) ?keep (Below.refl _ _) (fun _=>rfl)
   (PrI w p s) (PrX w p s) (PrI.own w p s (by rw[HP.out];exact Nat.le_refl _) _ (by omega)) (fun c=>PrX.own w p s c (by rw[HP.out];exact Nat.le_refl _) _ (by omega)) i0'
   (fun x=>{tmps:=#[.string s,undef,.pointer (some ⟨p,0,none⟩),undef,.int .i32 (x.2:Int),.string s,.bool true,.bool false,.string s,.func (.func 180) #[] #[.pointer (some ⟨p+1,0,none⟩)],.int .i64 (x.1:Int),.int .i32 (x.2:Int),undef,undef],defers:=[]})
   ?assign ?body ?done ?stop
  case keep=>
   intro W l o o' hl _ _ _
   show(W.putObj l o').heap[p+1]?=W.heap[p+1]?
   exact(grownBy_putObj' W l o').block _ (by have:=lt_of_block ‹_›;omega) (fun e=>by cases e;omega)
  case assign=>
   rintro l x W K hK
   unfold rnV
   gi_wp2
   exact hK
  case body=>
   rintro l pre x W hI hlt
   have hb:=hI.1.cell
   have hf:=hI.1.frozen
   have HI:=Hd hI
   have UC:=Hd (fun w=>Xz8 w x.2)
   have z:∃b,b=Xs6 x.2:=⟨_,rfl⟩
   obtain⟨b,hbx⟩:=z
   rw[←hbx] at UC
   have HB:=Hd hbx
   clear hbx hI
   cases b
   ·gi_wp2_with (refine⟨trivial,?_⟩;gi_at_call 143;refine(CallsIn.inRound l (callsIn_wide.2 (UC.out _))).mono ?_;rintro e w1 ⟨rfl,rfl⟩)
    refine⟨KeepsOthers.refl _,rfl,HI.out.1,HI.out.2.1,Hd ?_,HI.out.2.2.2⟩
    rw[List.all_append,HI.out.2.2.1.out]
    simp[gd,←HB.out]
   ·gi_wp2_with (refine⟨trivial,?_⟩;gi_at_call 143;refine(CallsIn.inRound l (callsIn_wide.2 (UC.out _))).mono ?_;rintro e w1 ⟨rfl,rfl⟩)
    refine⟨KeepsOthers.setCell _ _ _,⟨Xva HI.out.1,Hd ⟨rfl,?_⟩,HI.out.2.2.2.setCell (p:=⟨p,0,none⟩) (Nat.le_refl _) _⟩⟩
    rw[List.all_append,Bool.and_eq_false_iff]
    exact .inr (by simp[gd,←HB.out])
  case done=>
   rintro D ys W hD rfl hI hK
   have hb:=hI.1.cell
   have hf:=hI.1.frozen
   have HI:=Hd hI
   clear hI
   gi_wp2
   have hK':=(KeepsOthers.setCell W ⟨p,0,none⟩ (.bool true)).same D _ hK rfl
   refine⟨by simp,.inl ⟨_,_,rfl,run_takeDeferred hK',?_⟩⟩
   have hc5:=cell_kept (World.cell?_setCell_same' W ⟨p,0,none⟩ (.bool true) (by rw[hb];rfl)) (grownBy_putObj' _ D (.deferred none)) (fun r e=>by cases e;exact⟨_,hK',rfl⟩)
   refine⟨.bool true,?_,by rw[G.out,HI.out.2.2.1.out];rfl,((HI.out.2.2.2.mono (Nat.le_of_eq HP.out.symm)).setCell (p:=⟨p,0,none⟩) (Nat.le_of_eq HP.out.symm) _).trans (belowK_b (w:=w) (Nat.le_refl _) _ D _ _ (by have:=HP.out;omega) hK' rfl rfl)⟩
   simp[results,Tryz.f100,go_sem,hc5]
  case stop=>
   rintro D c pre W hD ⟨q,hq⟩ hI hK
   obtain⟨h1,h2,h3⟩:=hI
   obtain⟨rfl,h4⟩:=h2.out
   have h5:=h1.cell
   have GF:Xhg false (bs s)=false:=by rw[G.out,←hq,List.all_append,h4];rfl
   gi_wp2
   refine⟨by simp,.inl ⟨_,_,rfl,run_takeDeferred hK,?_⟩⟩
   have hc5:=cell_kept h5 (grownBy_putObj' _ D (.deferred none)) (fun r e=>by cases e;exact⟨_,hK,rfl⟩)
   refine⟨.bool false,?_,rfl,(h3.mono (Nat.le_of_eq HP.out.symm)).trans (belowK_b (w:=w) (Nat.le_refl _) _ D _ _ (by have:=HP.out;omega) hK rfl rfl)⟩
   simp[results,Tryz.f100,go_sem,hc5]
end Go.Proofs.YtohmdledkhgdaaaGreatDoor
/- The library's contracts on texts at this seat (laid by the shelf's tools): IndexByte, HasPrefix, HasSuffix, Contains, Cut, CutPrefix. -/
namespace Go.Proofs.YtohmdledkhgdaaaGreatDoor
open Go.Shelf Go.RowKit
set_option linter.unusedVariables false
def Xk3:Go.Shelf.Ren:=⟨fun|137=>151|217=>195|266=>228|n=>n,fun|9=>9|5=>5|3=>3|n=>n,fun|n=>n⟩
theorem Xul:Go.Proofs.Lays.n137 Tryz.prog Xk3:={
 mixed:=by kernel_rfl
 f137:=Tryz.func151.trans (congrArg some (by kernel_rfl))
 f217:=Tryz.func195.trans (congrArg some (by kernel_rfl))
 f266:=Tryz.func228.trans (congrArg some (by kernel_rfl))
 t3:=Tryz.underlying3
 a3:=Tryz.isAgg3
 z3:=Tryz.sizeOf3
 v3:=Tryz.zeroValue3
 t5:=Tryz.underlying5
 a5:=Tryz.isAgg5
 z5:=Tryz.sizeOf5
 v5:=Tryz.zeroValue5
 t9:=Tryz.underlying9
 a9:=Tryz.isAgg9
 z9:=Tryz.sizeOf9
 v9:=Tryz.zeroValue9}
theorem Xf7 (s:ByteArray) (c:Int) (w:World):
    Calls Tryz.prog 151 #[.string s,.int .u8 c] w fun e w'=>e=.returned (.int .i64 (Lib.indexByte s.data.toList c.toNat.toUInt8))∧w'=w:=Any.strings_IndexByte Xul s c w
def Xk5:Go.Shelf.Ren:=⟨fun|103=>68|210=>110|206=>71|n=>n,fun|9=>9|4=>4|24=>111|3=>3|n=>n,fun|n=>n⟩
theorem Xum:Go.Proofs.Lays.n103 Tryz.prog Xk5:={
 mixed:=by kernel_rfl
 f103:=Tryz.func68.trans (congrArg some (by kernel_rfl))
 f206:=Tryz.func71.trans (congrArg some (by kernel_rfl))
 f210:=Tryz.func110.trans (congrArg some (by kernel_rfl))
 t3:=Tryz.underlying3
 a3:=Tryz.isAgg3
 z3:=Tryz.sizeOf3
 v3:=Tryz.zeroValue3
 t4:=Tryz.underlying4
 a4:=Tryz.isAgg4
 z4:=Tryz.sizeOf4
 v4:=Tryz.zeroValue4
 t9:=Tryz.underlying9
 a9:=Tryz.isAgg9
 z9:=Tryz.sizeOf9
 v9:=Tryz.zeroValue9
 t24:=Tryz.underlying111
 a24:=Tryz.isAgg111
 z24:=Tryz.sizeOf111
 v24:=Tryz.zeroValue111}
theorem Xf8 (s p:ByteArray) (w:World):
    Calls Tryz.prog 68 #[.string s,.string p] w fun e w'=>e=.returned (.tuple #[.string ⟨(Lib.trimPrefix s.data.toList p.data.toList).toArray⟩,.bool (Lib.hasPrefix s.data.toList p.data.toList)])∧w'=w:=Any.strings_CutPrefix Xum s p w
def Xk2:Go.Shelf.Ren:=⟨fun|144=>144|143=>182|219=>150|217=>195|225=>196|224=>197|267=>198|266=>228|314=>229|n=>n,fun|9=>9|4=>4|3=>3|5=>5|46=>75|146=>128|51=>127|n=>n,fun|1=>2|n=>n⟩
theorem Xuk:Go.Proofs.Lays.n144 Tryz.prog Xk2:={
 mixed:=by kernel_rfl
 f143:=Tryz.func182.trans (congrArg some (by kernel_rfl))
 f144:=Tryz.func144.trans (congrArg some (by kernel_rfl))
 f217:=Tryz.func195.trans (congrArg some (by kernel_rfl))
 f219:=Tryz.func150.trans (congrArg some (by kernel_rfl))
 f224:=Tryz.func197.trans (congrArg some (by kernel_rfl))
 f225:=Tryz.func196.trans (congrArg some (by kernel_rfl))
 f266:=Tryz.func228.trans (congrArg some (by kernel_rfl))
 f267:=Tryz.func198.trans (congrArg some (by kernel_rfl))
 f314:=Tryz.func229.trans (congrArg some (by kernel_rfl))
 t3:=Tryz.underlying3
 a3:=Tryz.isAgg3
 z3:=Tryz.sizeOf3
 v3:=Tryz.zeroValue3
 t4:=Tryz.underlying4
 a4:=Tryz.isAgg4
 z4:=Tryz.sizeOf4
 v4:=Tryz.zeroValue4
 t5:=Tryz.underlying5
 a5:=Tryz.isAgg5
 z5:=Tryz.sizeOf5
 v5:=Tryz.zeroValue5
 t9:=Tryz.underlying9
 a9:=Tryz.isAgg9
 z9:=Tryz.sizeOf9
 v9:=Tryz.zeroValue9
 t46:=Tryz.underlying75
 a46:=Tryz.isAgg75
 z46:=Tryz.sizeOf75
 v46:=Tryz.zeroValue75
 t51:=Tryz.underlying127
 a51:=Tryz.isAgg127
 z51:=Tryz.sizeOf127
 v51:=Tryz.zeroValue127
 t146:=Tryz.underlying128
 a146:=Tryz.isAgg128
 z146:=Tryz.sizeOf128
 v146:=Tryz.zeroValue128
 g1:=by kernel_rfl}
theorem Xgq (s sub:ByteArray) (m:Int) (w:World) (hs:s.size<4294967281) (hm:w.cell? ⟨2,0,none⟩=some (.int .i64 m)):
    Calls Tryz.prog 144 #[.string s,.string sub] w fun e w'=>e=.returned (.bool (Lib.contains s.data.toList sub.data.toList))∧w'=w:=Any.strings_Contains Xuk s sub m w hs hm
def Xk1:Go.Shelf.Ren:=⟨fun|145=>67|220=>109|219=>150|217=>195|225=>196|224=>197|267=>198|266=>228|314=>229|n=>n,fun|9=>9|4=>4|59=>31|3=>3|5=>5|46=>75|146=>128|51=>127|n=>n,fun|1=>2|n=>n⟩
theorem Xuj:Go.Proofs.Lays.n145 Tryz.prog Xk1:={
 mixed:=by kernel_rfl
 f145:=Tryz.func67.trans (congrArg some (by kernel_rfl))
 f217:=Tryz.func195.trans (congrArg some (by kernel_rfl))
 f219:=Tryz.func150.trans (congrArg some (by kernel_rfl))
 f220:=Tryz.func109.trans (congrArg some (by kernel_rfl))
 f224:=Tryz.func197.trans (congrArg some (by kernel_rfl))
 f225:=Tryz.func196.trans (congrArg some (by kernel_rfl))
 f266:=Tryz.func228.trans (congrArg some (by kernel_rfl))
 f267:=Tryz.func198.trans (congrArg some (by kernel_rfl))
 f314:=Tryz.func229.trans (congrArg some (by kernel_rfl))
 t3:=Tryz.underlying3
 a3:=Tryz.isAgg3
 z3:=Tryz.sizeOf3
 v3:=Tryz.zeroValue3
 t4:=Tryz.underlying4
 a4:=Tryz.isAgg4
 z4:=Tryz.sizeOf4
 v4:=Tryz.zeroValue4
 t5:=Tryz.underlying5
 a5:=Tryz.isAgg5
 z5:=Tryz.sizeOf5
 v5:=Tryz.zeroValue5
 t9:=Tryz.underlying9
 a9:=Tryz.isAgg9
 z9:=Tryz.sizeOf9
 v9:=Tryz.zeroValue9
 t46:=Tryz.underlying75
 a46:=Tryz.isAgg75
 z46:=Tryz.sizeOf75
 v46:=Tryz.zeroValue75
 t51:=Tryz.underlying127
 a51:=Tryz.isAgg127
 z51:=Tryz.sizeOf127
 v51:=Tryz.zeroValue127
 t59:=Tryz.underlying31
 a59:=Tryz.isAgg31
 z59:=Tryz.sizeOf31
 v59:=Tryz.zeroValue31
 t146:=Tryz.underlying128
 a146:=Tryz.isAgg128
 z146:=Tryz.sizeOf128
 v146:=Tryz.zeroValue128
 g1:=by kernel_rfl}
theorem Xgc (s sep:ByteArray) (m:Int) (w:World) (hs:s.size<4294967281) (hm:w.cell? ⟨2,0,none⟩=some (.int .i64 m)):
    Calls Tryz.prog 67 #[.string s,.string sep] w fun e w'=>e=.returned (.tuple #[.string ⟨(Lib.cut s.data.toList sep.data.toList).1.toArray⟩,.string ⟨(Lib.cut s.data.toList sep.data.toList).2.1.toArray⟩,.bool (Lib.cut s.data.toList sep.data.toList).2.2])∧∃n,w'=w.drewN n:=Any.strings_Cut Xuj s sep m w hs hm
def Xmx:Go.Shelf.Ren:=⟨fun|99=>26|206=>71|n=>n,fun|9=>9|4=>4|3=>3|n=>n,fun|n=>n⟩
theorem Xxj:Go.Proofs.Lays.n99 Tryz.prog Xmx:={
 mixed:=by kernel_rfl
 f99:=Tryz.func26.trans (congrArg some (by kernel_rfl))
 f206:=Tryz.func71.trans (congrArg some (by kernel_rfl))
 t3:=Tryz.underlying3
 a3:=Tryz.isAgg3
 z3:=Tryz.sizeOf3
 v3:=Tryz.zeroValue3
 t4:=Tryz.underlying4
 a4:=Tryz.isAgg4
 z4:=Tryz.sizeOf4
 v4:=Tryz.zeroValue4
 t9:=Tryz.underlying9
 a9:=Tryz.isAgg9
 z9:=Tryz.sizeOf9
 v9:=Tryz.zeroValue9}
theorem Xch (s p:ByteArray) (w:World):
    Calls Tryz.prog 26 #[.string s,.string p] w fun e w'=>e=.returned (.bool (Lib.hasPrefix s.data.toList p.data.toList))∧w'=w:=Any.strings_HasPrefix Xxj s p w
def Xk6:Go.Shelf.Ren:=⟨fun|100=>21|207=>66|n=>n,fun|9=>9|4=>4|3=>3|n=>n,fun|n=>n⟩
theorem Xun:Go.Proofs.Lays.n100 Tryz.prog Xk6:={
 mixed:=by kernel_rfl
 f100:=Tryz.func21.trans (congrArg some (by kernel_rfl))
 f207:=Tryz.func66.trans (congrArg some (by kernel_rfl))
 t3:=Tryz.underlying3
 a3:=Tryz.isAgg3
 z3:=Tryz.sizeOf3
 v3:=Tryz.zeroValue3
 t4:=Tryz.underlying4
 a4:=Tryz.isAgg4
 z4:=Tryz.sizeOf4
 v4:=Tryz.zeroValue4
 t9:=Tryz.underlying9
 a9:=Tryz.isAgg9
 z9:=Tryz.sizeOf9
 v9:=Tryz.zeroValue9}
theorem Xdg (s p:ByteArray) (w:World) (hs:s.size≤9223372036854775807):
    Calls Tryz.prog 21 #[.string s,.string p] w fun e w'=>e=.returned (.bool (Lib.hasSuffix s.data.toList p.data.toList))∧w'=w:=Any.strings_HasSuffix Xun s p w hs
end Go.Proofs.YtohmdledkhgdaaaGreatDoor
/- Plain: the library's texts functions and this seat's: split, join, cut, decimal digits. -/
namespace Go.Proofs.YtohmdledkhgdaaaGreatDoor
set_option linter.unusedVariables false
theorem Xh6 {a b:UInt8} (h:a.toNat=b.toNat):a=b:=UInt8.toNat_inj.1 h
theorem Xlh (c:UInt8):∀l:List UInt8,(Lib.splitK [c] 0 (Lib.count l [c]) l).map (fun p=>p.map UInt8.toNat)=spl c.toNat (l.map UInt8.toNat)
 |[]=>by rw[Lib.count_miss (by simp[Lib.index])];rfl
 |b::l=>by
  have ih:=Xlh c l
  by_cases h:b=c
  ·subst h
   have hix:Lib.index (b::l) [b]=0:=by rw[Lib.index];simp[List.isPrefixOf]
   rw[Lib.count_cons_eq,Nat.add_comm,Lib.splitK,hix]
   simp only[List.map_cons,spl,if_true]
   rw[←ih]
   simp
  ·have h':¬b.toNat=c.toNat:=fun e=>h (Xh6 e)
   rw[Lib.count_cons_ne b c l h]
   simp only[List.map_cons,spl,if_neg h']
   rw[←ih]
   have hix:Lib.index (b::l) [c]=if Lib.index l [c]==-1 then -1 else Lib.index l [c]+1:=by rw[Lib.index];simp[List.isPrefixOf,Ne.symm h]
   cases hn:Lib.count l [c] with
   |zero=>rfl
   |succ k=>
    have hne:Lib.index l [c]≠-1:=fun e=>by rw[Lib.count_miss e] at hn;omega
    have hge:=Lib.index_ge l [c]
    obtain⟨j,hj⟩:∃j:Nat,Lib.index l [c]=j:=⟨(Lib.index l [c]).toNat,by omega⟩
    have e1:(Lib.index l [c]==-1)=false:=beq_eq_false_iff_ne.2 hne
    rw[hj] at hix e1
    rw[e1] at hix
    simp only[Lib.splitK,hix,hj,e1]
    have e2:(((j:Int)+1)==-1)=false:=beq_eq_false_iff_ne.2 (by omega)
    have e3:((j:Int)+1).toNat=j+1:=by omega
    simp[e2,e3]
theorem Xlv (sep:List Nat):∀(r:List (List Nat)) (x:List Nat),Xa0 sep (x::r)=x++(r.map (sep++·)).flatten
 |[],x=>by simp[Xa0]
 |y::r,x=>by rw[Xa0,Xlv sep r y];simp
theorem Xuo (sep:List UInt8) (xs:List (List UInt8)):(Lib.join xs sep).map UInt8.toNat=Xa0 (sep.map UInt8.toNat) (xs.map fun x=>x.map UInt8.toNat):=by
 cases xs with
 |nil=>rfl
 |cons x r=>
  rw[Lib.join_cons,List.map_cons,Xlv,List.map_append]
  congr 1
  induction r with
  |nil=>rfl
  |cons y r ih=>simp only[Lib.joinTail,List.map_cons,List.flatten_cons,List.map_append] at ih⊢;rw[ih]
theorem Xm7:∀(k u:Nat),u<10^(k+1)→(Lib.decDigits u).map UInt8.toNat=Xek k u
 |0,u,h=>by
  have h:u<10:=by simpa using h
  rw[Lib.decDigits_one h]
  simp only[Xek,List.map_cons,List.map_nil,List.cons.injEq,and_true]
  rw[UInt8.toNat_ofNat'];omega
 |k+1,u,h=>by
  by_cases h1:u<10
  ·rw[Lib.decDigits_one h1,Xek,if_pos h1]
   simp only[List.map_cons,List.map_nil,List.cons.injEq,and_true]
   rw[UInt8.toNat_ofNat'];omega
  ·rw[Lib.decDigits,dif_neg h1,Xek,if_neg h1,List.map_append,Xm7 k (u/10) (by rw[Nat.pow_succ] at h;omega)]
   simp only[List.map_cons,List.map_nil]
   rw[UInt8.toNat_ofNat']
   congr 2;omega
theorem Xxt (n:Int) (h0:-9223372036854775808≤n) (h1:n≤9223372036854775807):(Lib.itoa n).map UInt8.toNat=Xd1 n:=by
 unfold Lib.itoa Xd1
 split
 ·rw[List.map_cons,Xm7 20 _ (by omega)];rfl
 ·rw[Xm7 20 _ (by omega)]
theorem Xeg {c:UInt8}:∀{l:List UInt8},Lib.indexByte l c=-1→(l.map UInt8.toNat).takeWhile (fun x=>!decide (x=c.toNat))=l.map UInt8.toNat
 |[],_=>rfl
 |b::l,h=>by
  rw[Lib.indexByte] at h
  by_cases hb:b=c
  ·simp[hb] at h
  ·have h':¬b.toNat=c.toNat:=fun e=>hb (Xh6 e)
   have e2:(b==c)=false:=beq_eq_false_iff_ne.2 hb
   rw[e2] at h
   by_cases h3:Lib.indexByte l c=-1
   ·rw[List.map_cons,List.takeWhile_cons,decide_eq_false h']
    simp only[Bool.not_false,if_true]
    rw[Xeg h3]
   ·have hge:=Lib.index_ge l [c]
    rw[Lib.index_one] at hge
    have e3:(Lib.indexByte l c==-1)=false:=beq_eq_false_iff_ne.2 h3
    rw[e3] at h
    simp at h
    omega
theorem Xef {c:UInt8}:∀{l:List UInt8} {i:Nat},Lib.indexByte l c=i→(l.map UInt8.toNat).takeWhile (fun x=>!decide (x=c.toNat))=(l.map UInt8.toNat).take i∧i<l.length∧(l.map UInt8.toNat).dropWhile (fun x=>!decide (x=c.toNat))=(l.map UInt8.toNat).drop i
 |[],i,h=>by rw[Lib.indexByte] at h;omega
 |b::l,i,h=>by
  rw[Lib.indexByte] at h
  by_cases hb:b=c
  ·rw[hb] at h⊢
   simp at h
   have:i=0:=by omega
   subst this
   simp
  ·have h':¬b.toNat=c.toNat:=fun e=>hb (Xh6 e)
   have e2:(b==c)=false:=beq_eq_false_iff_ne.2 hb
   rw[e2] at h
   by_cases h3:Lib.indexByte l c=-1
   ·rw[h3] at h;simp at h
   ·have hge:=Lib.index_ge l [c]
    rw[Lib.index_one] at hge
    have e3:(Lib.indexByte l c==-1)=false:=beq_eq_false_iff_ne.2 h3
    rw[e3] at h
    simp at h
    obtain⟨j,rfl⟩:∃j,i=j+1:=⟨i-1,by omega⟩
    obtain⟨a1,a2,a3⟩:=Xef (c:=c) (l:=l) (i:=j) (by omega)
    rw[List.map_cons,List.takeWhile_cons,List.dropWhile_cons,decide_eq_false h']
    simp only[Bool.not_false,if_true]
    rw[a1,a3]
    exact⟨rfl,by simpa using a2,rfl⟩
end Go.Proofs.YtohmdledkhgdaaaGreatDoor
/- strings.Cut at one byte. -/
namespace Go.Proofs.YtohmdledkhgdaaaGreatDoor
open Go.RowKit
set_option linter.unusedVariables false
set_option maxRecDepth 100000
def Xh5 (c:Nat) (l:List Nat):List Nat:=l.takeWhile fun x=>!decide (x=c)
def Ygm (c:Nat) (t:ByteArray) (w:World) (e:Ending) (w':World):Prop:=
 ∃(x y:ByteArray) (b:Bool),e=.returned (.tuple #[.string x,.string y,.bool b])∧bs x=Xh5 c (bs t)∧bs y=(bs t).drop ((Xh5 c (bs t)).length+1)∧b=decide ((Xh5 c (bs t)).length<(bs t).length)∧x.size≤t.size∧Dr w w'
theorem Xip (l:List UInt8):bs ⟨l.toArray⟩=l.map UInt8.toNat:=by simp[bs]
theorem Xq5 (t:ByteArray) (c:UInt8) (w:World) (hs:t.size<4294967281) (hm:∃m,w.cell? ⟨2,0,none⟩=some (.int .i64 m)):
    Calls Tryz.prog 67 #[.string t,.string ⟨#[c]⟩] w (Ygm c.toNat t w):=by
 obtain⟨m,hm⟩:=hm
 refine(Xgc t ⟨#[c]⟩ m w hs hm).mono fun e w' ⟨h1,q,h2⟩=>?_
 refine⟨_,_,_,h1,?_,?_,?_,?_,⟨q,h2⟩⟩
 all_goals
  have e0:(⟨#[c]⟩:ByteArray).data.toList=[c]:=rfl
  have hix:=Lib.index_one t.data.toList c
  unfold Lib.cut
  rw[e0,hix]
  by_cases h:Lib.indexByte t.data.toList c=-1
  ·have hn:=Xeg h
   rw[h]
   simp only[show¬(0:Int)≤-1 by decide,if_false]
   have hu:Xh5 c.toNat (bs t)=bs t:=hn
   first
    |(rw[Xip];exact hu.symm)
    |(rw[Xip,hu,List.drop_of_length_le (by omega)];rfl)
    |(rw[hu];simp)
    |exact Nat.le_refl _
  ·have hge:=Lib.index_ge t.data.toList [c]
   rw[hix] at hge
   obtain⟨i,hi⟩:∃i:Nat,Lib.indexByte t.data.toList c=i:=⟨(Lib.indexByte t.data.toList c).toNat,by omega⟩
   obtain⟨h3,h4,h5⟩:=Xef hi
   rw[hi]
   have hl:t.data.toList.length=(bs t).length:=by simp[bs]
   have hu:Xh5 c.toNat (bs t)=(bs t).take i:=h3
   have hul:(Xh5 c.toNat (bs t)).length=i:=by rw[hu,List.length_take];omega
   simp only[show(0:Int)≤(i:Int) from Int.natCast_nonneg i,if_true,Int.toNat_natCast,List.length_singleton]
   first
    |(rw[Xip,hu,List.map_take];rfl)
    |(rw[Xip,hul,List.map_drop];rfl)
    |(rw[hul];simp;omega)
    |(rw[←Xaa,Xip,←Xaa];simp[bs];omega)
theorem Xx4 (l:List UInt8):Lib.hasPrefix l [32]=decide ((l.map UInt8.toNat).head?=some 32):=by
 cases l with
 |nil=>rfl
 |cons a l=>
  simp only[Lib.hasPrefix,List.map_cons,List.head?_cons]
  rw[Bool.eq_iff_iff]
  simp[List.isPrefixOf]
  constructor
  ·intro h;rw[←h];rfl
  ·intro h;exact(Xh6 h).symm
theorem Xx3 (l:List UInt8):Lib.hasSuffix l [32]=decide ((l.map UInt8.toNat).getLast?=some 32):=by
 rw[Bool.eq_iff_iff]
 simp only[Lib.hasSuffix,decide_eq_true_eq]
 rcases List.eq_nil_or_concat l with rfl|⟨t,a,rfl⟩
 ·simp[List.isSuffixOf]
 ·simp[List.isSuffixOf,List.isPrefixOf]
  constructor
  ·intro h;rw[←h];rfl
  ·intro h;exact(Xh6 h).symm
theorem Ydh:∀l:List UInt8,(Lib.index l [32,32]=-1↔dbl (l.map UInt8.toNat)=false)
 |[]=>by simp[Lib.index,dbl]
 |[b]=>by simp[Lib.index,dbl,List.isPrefixOf]
 |a::b::t=>by
  have ih:=Ydh (b::t)
  have hge:=Lib.index_ge (b::t) [32,32]
  rw[Lib.index]
  simp only[List.map_cons,dbl] at ih⊢
  by_cases h:a=32∧b=32
  ·obtain⟨rfl,rfl⟩:=h;simp[List.isPrefixOf]
  ·have e1:([32,32].isPrefixOf (a::b::t))=false:=by
      rw[Bool.eq_false_iff];intro e;simp[List.isPrefixOf] at e;exact h ⟨e.1.symm,e.2.symm⟩
   have e2:(decide (a.toNat=32)&&decide (b.toNat=32))=false:=by
    rw[Bool.eq_false_iff];intro e;simp at e;exact h ⟨Xh6 e.1,Xh6 e.2⟩
   rw[e1,e2]
   simp only[Bool.false_or,Bool.false_eq_true,if_false]
   rw[←ih]
   by_cases h3:Lib.index (b::t) [32,32]=-1
   ·simp[h3]
   ·have e3:(Lib.index (b::t) [32,32]==-1)=false:=beq_eq_false_iff_ne.2 h3
    rw[e3];simp only[Bool.false_eq_true,if_false]
    constructor<;>intro h4<;>omega
theorem Yjz (l:List UInt8):Lib.contains l [32,32]=dbl (l.map UInt8.toNat):=by
 unfold Lib.contains
 have hge:=Lib.index_ge l [32,32]
 have:=Ydh l
 cases hd:dbl (l.map UInt8.toNat)
 ·rw[this.2 hd];rfl
 ·rw[hd] at this;simp at this
  simp;omega
theorem Xv4 (s:ByteArray) (w:World) (hs:s.size≤1000000) (hE:Env w):
    Calls Tryz.prog 101 #[.string s] w fun e w'=>e=.returned (.bool (sqz (bs s)))∧w=w':=by
 obtain⟨m,hm⟩:=hE.mx
 have P1:=Hd (fun w=>Xch s ⟨#[32]⟩ w)
 have P2:=Hd (fun w=>Xdg s ⟨#[32]⟩ w (by omega))
 have P3:=Hd (Xgq s ⟨#[32,32]⟩ m w (by omega) hm)
 rw[show(⟨#[32]⟩:ByteArray).data.toList=[32] from rfl,Xx4] at P1
 rw[show(⟨#[32]⟩:ByteArray).data.toList=[32] from rfl,Xx3] at P2
 rw[show(⟨#[32,32]⟩:ByteArray).data.toList=[32,32] from rfl,Yjz] at P3
 have S:Hid (sqz (bs s)=(!decide ((bs s).head?=some 32)&&!decide ((bs s).getLast?=some 32)&&!dbl (bs s))):=Hd rfl
 obtain⟨a,ha⟩:∃a,a=decide ((bs s).head?=some 32):=⟨_,rfl⟩
 obtain⟨b,hb⟩:∃b,b=decide ((bs s).getLast?=some 32):=⟨_,rfl⟩
 obtain⟨c,hc⟩:∃c,c=dbl (bs s):=⟨_,rfl⟩
 rw[←ha,←hb,←hc] at S
 have P1':Hid (∀w,Calls Tryz.prog 26 #[.string s,.string ⟨#[32]⟩] w fun e w'=>e=.returned (.bool a)∧w'=w):=Hd (by rw[ha];exact P1.out)
 have P2':Hid (∀w,Calls Tryz.prog 21 #[.string s,.string ⟨#[32]⟩] w fun e w'=>e=.returned (.bool b)∧w'=w):=Hd (by rw[hb];exact P2.out)
 have P3':Hid (Calls Tryz.prog 144 #[.string s,.string ⟨#[32,32]⟩] w fun e w'=>e=.returned (.bool c)∧w'=w):=Hd (by rw[hc];exact P3.out)
 clear P1 P2 P3 ha hb hc hm hE
 cases a<;>cases b
 all_goals
  go_enter Tryz.func101,Tryz.ntmps101
  go_wp2_with (first
   |(go_at_call 26;refine(P1'.out _).mono ?_;rintro e w' ⟨rfl,h⟩;cases h)
   |(go_at_call 21;refine(P2'.out _).mono ?_;rintro e w' ⟨rfl,h⟩;cases h)
   |(go_at_call 144;refine P3'.out.mono ?_;rintro e w' ⟨rfl,h⟩;cases h))
  go_ret
  exact⟨by rw[S.out];cases c<;>rfl,rfl⟩
set_option maxHeartbeats 400000 in
theorem Xrs (w:World) (b n:Nat) (h:Ck w b n) (s:ByteArray) (most:Nat) (hs:s.size≤1000000) (hmost:most≤1000000) (hE:Env w) (h9:9≤b):
    Calls Tryz.prog 58 #[.pointer (some ⟨b,0,none⟩),.string s,.int .i64 (most:Int)] w (Xb5 w b (fe n (Xfa (bs s) most))):=by
 have W:=Hd (Xbn w b n h (decide (most<s.size)) 5)
 have LT:Hid (most<s.size↔most<(bs s).length):=Hd (by rw[Xaa])
 have FR9:Hid (∀w',Fr1 b w w'→Env w'):=Hd (fun w' hf=>hE.below (hf.below (Nat.le_trans (by decide) hE.size) h9) (Nat.le_refl _))
 obtain⟨q,hq⟩:∃q,q=decide (most<s.size):=⟨_,rfl⟩
 have T:Hid (Xfa (bs s) most=fe (eIf q 5) (fe (eIf (!Xhg false (bs s)) 6) (eIf (!sqz (bs s)) 3))):=Hd (by rw[hq];unfold Xfa;simp only[Xaa])
 have dq:decide ((most:Int)<(s.size:Int))=q:=by rw[hq];simp
 have dq2:decide (most<s.size)=q:=hq.symm
 rw[←hq] at W
 clear h hE hq
 go_enter Tryz.func58,Tryz.ntmps58
 go_wp2_with fail
 refine W.out.mono ?_
 rintro e w1 ⟨⟨v,rfl⟩,h1,f1⟩
 have P:=Hd (Xtp s w1 (by unfold maxLen;omega))
 have H1:=Hd h1;have F1:=Hd f1
 clear h1 f1 W dq dq2
 go_wp2_with fail
 refine P.out.mono ?_
 rintro e w2 ⟨rfl,hb2⟩
 have F2:=Hd (F1.out.trans (Fr1.of_below hb2))
 have W2:=Hd (Xbn w2 b _ (H1.out.below hb2) (!Xhg false (bs s)) 6)
 obtain⟨g,hg⟩:∃g,g=Xhg false (bs s):=⟨_,rfl⟩
 rw[←hg] at W2 T⊢
 clear hb2 hg P
 go_wp2_with fail
 refine W2.out.mono ?_
 rintro e w3 ⟨⟨v,rfl⟩,h3,f3⟩
 have F3:=Hd (F2.out.trans f3)
 have S:=Hd (Xv4 s w3 hs (FR9.out _ F3.out))
 have W3:=Hd (Xbn w3 b _ h3 (!sqz (bs s)) 3)
 obtain⟨k,hk⟩:∃k,k=sqz (bs s):=⟨_,rfl⟩
 rw[←hk] at W3 T S
 clear h3 f3 hk W2
 go_wp2_with (go_at_call 101;refine S.out.mono ?_;rintro e w' ⟨rfl,rfl⟩)
 refine W3.out.mono ?_
 rintro e w4 ⟨⟨v,rfl⟩,h4,f4⟩
 have H4:=Hd h4;have F4:=Hd (F3.out.trans f4)
 clear h4 f4 W3 S
 go_wp2_with fail
 go_end0
 refine⟨⟨_,rfl⟩,?_,F4.out⟩
 have e:fe n (Xfa (bs s) most)=fe (fe (fe n (eIf q 5)) (eIf (!g) 6)) (eIf (!k) 3):=by
  rw[T.out]
  unfold fe
  by_cases hn:n=0
  ·subst hn;cases q<;>simp[eIf]
  ·simp[hn]
 rw[e]
 exact H4.out
theorem Xxu (w:World) (c:Nat) (hc:c<256):Calls Tryz.prog 104 #[.int .u8 (c:Int)] w fun e w'=>e=.returned (.bool (low c))∧w=w':=by
 obtain⟨b,hb⟩:∃b,b=low c:=⟨_,rfl⟩
 rw[←hb]
 have HB:=Hd hb
 clear hb
 rcases(by omega:c<97∨(97≤c∧c≤122)∨122<c) with h|⟨h,h2⟩|h
 all_goals
  go_enter Tryz.func104,Tryz.ntmps104
  go_wp2_with fail
  go_ret
  exact⟨Xa3 (by rw[HB.out,Bool.eq_iff_iff];simp[low];try omega),rfl⟩
theorem Xj7 (w:World) (c:Nat) (hc:c<256):Calls Tryz.prog 105 #[.int .u8 (c:Int)] w fun e w'=>e=.returned (.bool (dig c))∧w=w':=by
 obtain⟨b,hb⟩:∃b,b=dig c:=⟨_,rfl⟩
 rw[←hb]
 have HB:=Hd hb
 clear hb
 rcases(by omega:c<48∨(48≤c∧c≤57)∨57<c) with h|⟨h,h2⟩|h
 all_goals
  go_enter Tryz.func105,Tryz.ntmps105
  go_wp2_with fail
  go_ret
  exact⟨Xa3 (by rw[HB.out,Bool.eq_iff_iff];simp[dig];try omega),rfl⟩
def dsB (c:Nat):Bool:=!low c&&!dig c&&!decide (c=45)
theorem Xng {p:Nat→Bool} {l:List Nat} {k c:Nat} (hk:k<l.length) (hc:c=l.getD k 0):(l.take (k+1)).any p=((l.take k).any p||p c):=by
 rw[List.getD_eq_getElem?_getD,List.getElem?_eq_getElem hk,Option.getD_some] at hc
 rw[List.take_succ_eq_append_getElem hk,List.any_append,←hc];simp
theorem Yib (n:Nat) (p q:Bool) (e:Nat):fe (fe n (eIf p e)) (eIf q e)=fe n (eIf (p||q) e):=by
 unfold fe eIf;by_cases h:n=0<;>by_cases h2:e=0<;>cases p<;>cases q<;>simp[h,h2]
theorem Xi0 (a b c:Nat):fe (fe a b) c=fe a (fe b c):=by unfold fe;split<;>simp_all
theorem Yfn (n:Nat):fe n 0=n:=by unfold fe;split<;>simp_all
set_option maxHeartbeats 1000000 in
theorem Yb7 (w:World) (b n:Nat) (h:Ck w b n) (s:ByteArray) (hs:s.size≤1000000):
    Calls Tryz.prog 62 #[.pointer (some ⟨b,0,none⟩),.string s] w (Xb5 w b (fe n (Xkk (bs s)))):=by
 obtain⟨q,hq⟩:∃q,q=decide (20<s.size):=⟨_,rfl⟩
 have W:=Hd (Xbn w b n h q 5)
 have T:Hid (Xkk (bs s)=fe (eIf q 5) (eIf ((bs s).any dsB) 6)):=Hd (by rw[hq];unfold Xkk;simp only[Xaa];rfl)
 have dq:decide ((20:Int)<(s.size:Int))=q:=by rw[hq];simp;omega
 clear h hq
 go_enter Tryz.func62,Tryz.ntmps62
 go_wp2_with fail
 refine W.out.mono ?_
 rintro e w1 ⟨⟨v,rfl⟩,h1,f1⟩
 obtain⟨m,hm⟩:∃m,m=fe n (eIf q 5):=⟨_,rfl⟩
 rw[←hm] at h1
 have HM:=Hd hm
 have H1:=Hd h1;have F1:=Hd f1
 clear h1 f1 W dq hm
 go_wp2_with fail
 go_loopg [4,12] s.size (fun k c i wr=>∃j:Nat,j≤s.size∧k=s.size-j∧i=.int .i64 (j:Int)∧Hid (Ck wr b (fe m (eIf (((bs s).take j).any dsB) 6))∧Fr1 b w wr))
 case atStart=>exact⟨0,by omega,rfl,rfl,Hd ⟨by simp[eIf,Yfn];exact H1.out,F1.out⟩⟩
 case round=>
  obtain⟨j,hj,rfl,rfl,hr⟩:=hrel
  by_cases hlt:j<s.size
  ·obtain⟨c,hc⟩:∃c,c=(bs s).getD j 0:=⟨_,rfl⟩
   have hc2:c<256:=by rw[hc];exact Xa8 s j
   have xn:∀w,(Instr.index 9 (.string s) (.int .i64 (j:Int))).run Tryz.prog w=.ok (.int .u8 (c:Int)) w:=fun w=>by rw[Xa7 9 Tryz.underlying9 s .i64 j j rfl hlt,hc]
   have ST:Hid (((bs s).take (j+1)).any dsB=(((bs s).take j).any dsB||dsB c)):=Hd (Xng (by rw[Xaa];exact hlt) hc)
   have L:=Hd (fun w=>Xxu w c hc2)
   have D:=Hd (fun w=>Xj7 w c hc2)
   have X:Hid (dsB c=(!low c&&!dig c&&!decide (c=45))):=Hd rfl
   have N45:Hid (((c:Int) !=45)=!decide (c=45)):=Hd (by by_cases h:c=45<;>simp[h];omega)
   obtain⟨pl,hpl⟩:∃x,x=low c:=⟨_,rfl⟩
   obtain⟨pd,hpd⟩:∃x,x=dig c:=⟨_,rfl⟩
   obtain⟨pq,hpq⟩:∃x,x=decide (c=45):=⟨_,rfl⟩
   rw[←hpl] at L X
   rw[←hpd] at D X
   rw[←hpq] at N45 X
   clear hc hpl hpd hpq
   have n45:=N45.out
   have WH:=Hd (fun bad=>Xbn wr b _ hr.out.1 bad 6)
   cases pl<;>cases pd<;>cases pq
   all_goals
    simp only[Bool.not_true,Bool.not_false] at n45
    go_wp2_with (first
     |(go_at_call 104;refine(L.out _).mono ?_;rintro e w' ⟨rfl,rfl⟩)
     |(go_at_call 105;refine(D.out _).mono ?_;rintro e w' ⟨rfl,rfl⟩))
    refine(WH.out _).mono ?_
    rintro e w2 ⟨⟨v,rfl⟩,h2,f2⟩
    have NX:Hid (Ck w2 b (fe m (eIf (((bs s).take (j+1)).any dsB) 6))∧Fr1 b w w2):=Hd ⟨by rw[ST.out,←Yib,X.out];exact h2,hr.out.2.trans f2⟩
    clear h2 f2
    go_wp2_with fail
    go_roundg (s.size-(j+1))
    case measure=>omega
    case rel=>exact⟨j+1,by omega,rfl,by go_num,NX⟩
  ·obtain rfl:j=s.size:=by omega
   have R:=hr.out
   rw[List.take_of_length_le (by rw[Xaa];exact Nat.le_refl _)] at R
   have HR:=Hd R
   clear R hr
   go_wp2_with fail
   go_end0
   exact⟨⟨_,rfl⟩,by rw[T.out,←Xi0,←HM.out];exact HR.out.1,HR.out.2⟩
theorem Xur (w:World) (n:Int):Calls Tryz.prog 106 #[.int .i64 n] w fun e w'=>e=.returned (.int .i64 (eIf (!Xau n) 2:Nat))∧w=w':=by
 obtain⟨b,hb⟩:∃b,b=Xau n:=⟨_,rfl⟩
 rw[←hb]
 have HB:Hid (b=(decide (1≤n)&&decide (n≤8))):=Hd hb
 clear hb
 rcases(by omega:n<1∨(1≤n∧n≤8)∨8<n) with h|⟨h,h2⟩|h
 ·have hb:b=false:=by rw[HB.out,decide_eq_false (by omega)];rfl
  subst hb
  go_enter Tryz.func106,Tryz.ntmps106
  go_wp2_with fail
  go_ret
  exact⟨rfl,rfl⟩
 ·have hb:b=true:=by rw[HB.out,decide_eq_true h,decide_eq_true h2];rfl
  subst hb
  go_enter Tryz.func106,Tryz.ntmps106
  go_wp2_with fail
  go_ret
  exact⟨rfl,rfl⟩
 ·have hb:b=false:=by rw[HB.out,decide_eq_false (show¬n≤8 by omega),Bool.and_false]
  subst hb
  have h1:¬n<1:=by omega
  go_enter Tryz.func106,Tryz.ntmps106
  go_wp2_with fail
  go_ret
  exact⟨rfl,rfl⟩
def hvz (c:Nat):Int:=match hvl c with|some v=>(v:Int)|none=>-1
def hdB (c:Nat):Bool:=(hvl c).isSome
theorem Xup:∀c:Fin 256,Lib.indexByte [48,49,50,51,52,53,54,55,56,57,97,98,99,100,101,102] (UInt8.ofNat c.val)=hvz c.val:=by decide+kernel
theorem Yh4 (c:Nat):hdB c=(dig c||(decide (97≤c)&&decide (c≤102))):=by
 unfold hdB hvl dig
 rw[Bool.eq_iff_iff]
 by_cases h1:48≤c∧c≤57
 ·simp[h1]
 ·by_cases h2:97≤c∧c≤102
  ·simp[h1,h2]
  ·rw[if_neg h1,if_neg h2];simp;omega
theorem Xxs (w:World) (c:Nat) (hc:c<256):Calls Tryz.prog 151 #[.string ⟨#[48,49,50,51,52,53,54,55,56,57,97,98,99,100,101,102]⟩,.int .u8 (c:Int)] w fun e w'=>e=.returned (.int .i64 (hvz c))∧w=w':=by
 refine(Xf7 _ (c:Int) w).mono ?_
 rintro e w' ⟨rfl,rfl⟩
 refine⟨?_,rfl⟩
 rw[Int.toNat_natCast,←Xup ⟨c,hc⟩]
theorem Xud (w:World) (c:Nat) (hc:c<256):Calls Tryz.prog 200 #[.int .u8 (c:Int)] w fun e w'=>e=.returned (.bool (hdB c))∧w=w':=by
 have D:=Hd (fun w=>Xj7 w c hc)
 have E:Hid (hdB c=(dig c||(decide (97≤c)&&decide (c≤102)))):=Hd (Yh4 c)
 obtain⟨b,hb⟩:∃b,b=hdB c:=⟨_,rfl⟩
 obtain⟨d,hd⟩:∃d,d=dig c:=⟨_,rfl⟩
 rw[←hb] at E⊢
 rw[←hd] at D E
 clear hb hd
 cases d
 ·rcases(by omega:c<97∨(97≤c∧c≤102)∨102<c) with h|⟨h,h2⟩|h
  all_goals
   go_enter Tryz.func200,Tryz.ntmps200
   go_wp2_with (go_at_call 105;refine(D.out _).mono ?_;rintro e w' ⟨rfl,rfl⟩)
   go_ret
   exact⟨Xa3 (by rw[E.out,Bool.eq_iff_iff];simp;try omega),rfl⟩
 ·go_enter Tryz.func200,Tryz.ntmps200
  go_wp2_with (go_at_call 105;refine(D.out _).mono ?_;rintro e w' ⟨rfl,rfl⟩)
  go_ret
  exact⟨Xa3 (by rw[E.out];rfl),rfl⟩
def Xge (k c:Nat):Bool:=if k<1 then decide (c=60) else if k<65 then hdB c else decide (c=sHash.getD (k-65) 0)
theorem Yb0 (w:World) (k c:Nat) (hk:k<71) (hc:c<256):Calls Tryz.prog 155 #[.int .i64 (k:Int),.int .u8 (c:Int)] w fun e w'=>e=.returned (.bool (Xge k c))∧w=w':=by
 have D:=Hd (fun w=>Xud w c hc)
 by_cases h1:k<1
 ·obtain rfl:k=0:=by omega
  have x0:=Xzu ⟨#[60]⟩ 60 rfl (by decide)
  go_enter Tryz.func155,Tryz.ntmps155
  go_wp2_with fail
  go_ret
  exact⟨Xa3 (by unfold Xge;rw[if_pos (by omega),Bool.eq_iff_iff];simp;omega),rfl⟩
 ·by_cases h2:k<65
  ·have F:Hid (Xge k c=hdB c):=Hd (by unfold Xge;rw[if_neg h1,if_pos h2])
   obtain⟨b,hb⟩:∃b,b=hdB c:=⟨_,rfl⟩
   rw[←hb] at F D
   clear hb
   go_enter Tryz.func155,Tryz.ntmps155
   go_wp2_with (go_at_call 200;refine(D.out _).mono ?_;rintro e w' ⟨rfl,rfl⟩)
   go_ret
   exact⟨by rw[F.out];rfl,rfl⟩
  ·have F:Hid (Xge k c=decide (c=sHash.getD (k-65) 0)):=Hd (by unfold Xge;rw[if_neg h1,if_neg h2])
   obtain⟨d,hd⟩:∃d,d=sHash.getD (k-65) 0:=⟨_,rfl⟩
   have xk:∀w,(Instr.index 9 (.string ⟨#[64,104,97,115,104,62]⟩) (.int .i64 ((k:Int)-1-64))).run Tryz.prog w=.ok (.int .u8 (d:Int)) w:=fun w=>by
    rw[Xa7 9 Tryz.underlying9 ⟨#[64,104,97,115,104,62]⟩ .i64 ((k:Int)-1-64) (k-65) (by omega) (by show k-65<6;omega),hd];rfl
   rw[←hd] at F
   clear hd
   go_enter Tryz.func155,Tryz.ntmps155
   go_wp2_with fail
   go_ret
   exact⟨Xa3 (by rw[F.out,Bool.eq_iff_iff];simp;omega),rfl⟩
end Go.Proofs.YtohmdledkhgdaaaGreatDoor
