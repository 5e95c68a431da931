/- Plain: commands, contents, their errors and their canonical form. -/
import Derived.Test.YtjolcnopipbkhaaGreatDoorFo01
import Derived.Lib.LaidTab
import Derived.Lib.ItoaNum
import Derived.Deep.MidRow
import Derived.Maps.OwnOps
import Derived.Maps.OwnSet
import Derived.Laws.BitsLemmas
import Derived.RangeFuncNested
import Derived.RangeFuncBound
import Derived.RangeFuncCalls
import Derived.RangeFuncLeaves
import Derived.RangeFuncBox
import Derived.Shelf.Abstract
import Derived.Shelf.RegionOpen
import Derived.OwnWalkIn
import Derived.TacticsInMore
import Derived.LoopNIn
import Derived.LoopIn
import Derived.Maps.AppendAt
import Derived.Laws.BitsAllLaws
import Derived.Laws.Rows
import Derived.Laws.CopyOwn
namespace Go.Proofs.YtjolcnopipbkhaaGreatDoor
open Go.Proofs.Tryz
open Go.RowKit Go.Maps
set_option linter.unusedVariables false
set_option maxRecDepth 100000
set_option maxHeartbeats 100000000
def Xes:Nat→Nat→List Nat
 |0,u=>[48+u%10]
 |k+1,u=>if u<10 then[48+u] else Xes k (u/10)++[48+u%10]
def Xdq (n:Int):List Nat:=if n<0 then 45::Xes 20 n.natAbs else Xes 20 n.toNat
def nxt (t:List Nat)(k:List Nat→List Nat→Nat):Nat:=match t with
 |[]=>4
 |_::u=>k (u.takeWhile fun c=>!decide (c=32)) (u.dropWhile fun c=>!decide (c=32))
def fin (t:List Nat):Nat:=if t=[] then 0 else 5
def Xid (x:List Nat):Nat:=match Xfl x with|none=>3|some i=>if i=zero32 then 1 else 0
def Xiu (x:List Nat):Nat:=if Xbf x=0 then 0 else 12
def Xlx (x:List Nat):Option Nat:=if x=[]∨7<x.length∨(1<x.length∧x.getD 0 0=48)∨x.all dig=false then none else some (x.foldl (fun n c=>10*n+(c-48)) 0)
def Xfi (least most:Nat)(x:List Nat):Nat:=match Xlx x with|none=>3|some n=>if n<least∨most<n then 2 else 0
def ltL:List Nat→List Nat→Bool
 |a::s,b::t=>decide (a<b)||(decide (a=b)&&ltL s t)
 |[],_::_=>true
 |_,[]=>false
def Xmy:List (List Nat)→Bool
 |a::b::t=>ltL a b&&Xmy (b::t)
 |_=>true
def Xc8 (x:List Nat):Nat:=match (spl 44 x).mapM Xe2 with
 |none=>3
 |some l=>if 8<l.length then 9 else if Xmy l=false then 30 else 0
def prC (c:Nat):Bool:=decide (32≤c)&&decide (c≤126)
def Xnf (s:List Nat):Nat:=if 200<s.length then 5 else if s.all prC=false then 6 else if s.head?=some 32∨s.getLast?=some 32 then 3 else 0
def Xd9 (t:List Nat):Nat:=match t with
 |[]=>0
 |_::u=>if u=[] then 4 else Xnf u
def Xgz:List Nat:=[111,112,101,110]
def Xi1:List Nat:=[109,111,100,101,114,97,116,101,100]
def Xgl (x:List Nat):Nat:=
 if(Xct x).2.2≠0 then(Xct x).2.2 else if(Xct x).1.length<17 then 4 else if 17<(Xct x).1.length then 5
 else if(Xct x).1.getD 0 0<1∨8<(Xct x).1.getD 0 0 then 2 else 0
def Xit:List Nat:=[99,97,110,99,101,108]
def Xga:List Nat:=[97,112,112,114,111,118,101]
def Xis:List Nat:=[100,101,102,105,110,101]
def Xir:List Nat:=[114,101,109,111,118,101]
def Xmv:List Nat:=[114,101,107,101,121]
def Xw0 (k t:List Nat):Nat:=
 if k=Xit then nxt t fun x t=>fe (Xid x) (fin t)
 else if k=Xga then nxt t fun x t=>fe (Xid x) (nxt t fun y t=>fe (Xiu y) (fin t))
 else if k=Xis then nxt t fun g t=>fe (Xiu g) (nxt t fun v t=>fe (Xfi 0 1000000 v) (nxt t fun m t=>
  if m=Xgz then Xd9 t else if m=Xi1 then nxt t fun a t=>fe (Xc8 a) (Xd9 t) else 3))
 else if k=Xir then nxt t fun g t=>fe (Xiu g) (nxt t fun v t=>fe (Xfi 0 1000000 v) (fin t))
 else if k=Xmv then nxt t fun n t=>fe (Xfi 1 1000 n) (nxt t fun p t=>fe (Xgl p) (fin t))
 else 11
def Xea (s:List Nat):Nat:=if 1000<s.length then 5 else Xw0 (s.takeWhile fun c=>!decide (c=32)) (s.dropWhile fun c=>!decide (c=32))
structure Cont where
 name:List Nat
 author:List Nat
 date:Int
 groups:List (List Nat)
 subject:List Nat
 refs:List (List Nat)
 sup:List Nat
 ctl:List Nat
 dist:List Nat
 number:Int
 height:Int
 root:List Nat
 leaf:Int
 body:List Nat
 deriving DecidableEq
def Xxg (c:Cont):Nat:=if c.ctl=[] then 0 else fe (eIf (!sqz c.ctl) 3) (fe (Xea c.ctl) (eIf (!decide (c.sup=zero32)) 11))
def Xav (n:Int):Bool:=decide (1≤n)&&decide (n≤8)
def Xbh (n:Int):Int:=if Xav n=true then 2^n.toNat else 0
def Xc4 (c:Cont):Nat:=
 fe (Xfp c.name 60)<|fe (eIf (decide (c.date<0)||decide (105190559<c.date)) 13)<|fe (Xbt c.groups)<|fe (Xfp c.subject 200)<|
 fe (Xe9 c.refs)<|fe (Xxg c)<|fe (Xli c.dist)<|fe (eIf (decide (c.number<0)||decide (1000<c.number)) 2)<|
 fe (eIf (!Xav c.height) 2)<|fe (eIf (decide (c.leaf<0)||decide (Xbh c.height≤c.leaf)) 2)<|
 fe (eIf (decide (57344<c.body.length)) 5) (Xf1 c.body)
def Xaw (sep:List Nat):List (List Nat)→List Nat
 |[]=>[]
 |[x]=>x
 |x::y::r=>x++sep++Xaw sep (y::r)
def Xg8 (id:List Nat):List Nat:=if id=zero32 then[] else Xcr id
def Xho (c:Cont):List Nat:=(c.height%256).toNat::c.root
def Xi7 (c:Cont):List Nat:=Xdq c.number++32::Xfk (Xho c)
def fWords:List (List Nat):=[
 [110,97,109,101],[97,117,116,104,111,114],[100,97,116,101],[103,114,111,117,112,115],[115,117,98,106,101,99,116],[114,101,102,101,114,101,110,99,101,115],
 [115,117,112,101,114,115,101,100,101,115],[99,111,110,116,114,111,108],[100,105,115,116,114,105,98,117,116,105,111,110],[107,101,121],[108,101,97,102]]
def Xaz (c:Cont):List (List Nat):=[
 c.name,Xbv c.author,Xdq c.date,Xaw [44] c.groups,c.subject,Xaw [32] (c.refs.map Xcr),
 Xg8 c.sup,c.ctl,c.dist,Xi7 c,Xdq c.leaf]
def Xa8 (c:Cont):List Nat:=((fWords.zip (Xaz c)).flatMap fun p=>p.1++32::p.2++[10])++10::c.body
def idF (c:Cont):List Nat:=Xi4 (Xa8 c)
def exC (x:Nat):Cont:=⟨[65,110,110],1::List.replicate 15 0,0,[[97,46,98]],[116,101,x],[],zero32,[],[],0,1,List.replicate 16 0,0,[]⟩
theorem Yar (x:Nat)(h:x=97∨x=110):Xc4 (exC x)=0:=by rcases h with rfl|rfl<;>decide+kernel
theorem Ymz:idF (exC 97)≠idF (exC 110):=by decide+kernel
structure Env (w:World):Prop where
 tab:Tab w
 pow : Lib.TabIs prog w "internal/strconv.uint64pow10" .u64 Lib.pow10Tab
 mx:∃m,w.cell? ⟨2,0,none⟩=some (.int .i64 m)
 sha:∀i,i<64→w.cell? ⟨1,i,none⟩=some (.int .u32 ((shK.getD i 0:Nat):Int))
 fw:∀i,i<11→w.cell? ⟨0,i,none⟩=some (.string (Xaq (fWords.getD i [])))
 size:9≤w.heap.size
theorem Xq7 {w w':World}{n:String}{g:Nat}{k:IntKind}{zs:List Int}{B:Nat}(h:Lib.TabIs prog w n k zs)(hg:prog.globalNamed n=some g)(hb:Below B w w')(hB:g<B):Lib.TabIs prog w' n k zs:=by
 unfold Lib.TabIs World.var? at h⊢
 rw[hg] at h⊢
 simp only[Option.bind_some] at h⊢
 rw[hb.block g hB]
 exact h
theorem Env.below {B:Nat}{w w':World}(h:Env w)(hb:Below B w w')(hB:9≤B):Env w':=
 ⟨h.tab.below hb (Nat.lt_of_lt_of_le (by decide) hB),Xq7 h.pow (g:=4) (by kernel_rfl) hb (Nat.lt_of_lt_of_le (by decide) hB),(by
  obtain⟨m,hm⟩:=h.mx
  exact⟨m,(hb.cell (p:=⟨2,0,none⟩) (Nat.lt_of_lt_of_le (by show(_:Nat)<9;decide) hB)).trans hm⟩),
  fun i hi=>(hb.cell (p:=⟨1,i,none⟩) (Nat.lt_of_lt_of_le (show(1:Nat)<9 by decide) hB)).trans (h.sha i hi),
  fun i hi=>(hb.cell (p:=⟨0,i,none⟩) (Nat.lt_of_lt_of_le (show(0:Nat)<9 by decide) hB)).trans (h.fw i hi),Nat.le_trans h.size hb.size⟩
theorem Env.on {w w':World}(h:Env w)(hb:Bw w w'):Env w':=h.below hb h.size
theorem Ynq (w0 w:World)(B fr tt bits count g:Nat)(f:Nat→Nat)(xs:List Nat)(h:RG B fr tt 249 bits count xs w)(hb:Below B w0 w)(hp:Xu7 w0 B 249 (2^tt) f)
    (hfr:fr≤8) (htt:1≤tt) (htt8:tt≤8) (hc:count<tt) (hbits:bits<2^count) (hg:g<2^fr) (hn:xs.length≤900000):
    Calls prog 261 #[.int .i64 g,.pointer (some ⟨B+5,0,none⟩),.pointer (some ⟨B+2,0,none⟩),.pointer (some ⟨B+6,0,none⟩),.pointer (some ⟨B+3,0,none⟩),.pointer (some ⟨B+4,0,none⟩)] w fun e w'=>
     e=.returned (.tuple #[])∧Below B w0 w'∧KM w w'∧∃b c ys,Xb5 f tt 16 (bits*2^fr+g) (count+fr) xs=(b,c,ys)∧RG B fr tt 249 b c ys w':=by
 have c5:=cell_of_one h.bBits
 have c2:=cell_of_one h.bFrom
 have c6:=cell_of_one h.bCount
 have f5:=free_of_one h.bBits
 have f6:=free_of_one h.bCount
 have hp1:2^count≤2^8:=Nat.pow_le_pow_right (by omega) (by omega)
 have hp2:2^fr≤2^8:=Nat.pow_le_pow_right (by omega) (by omega)
 have bd0:=Xjv hbits hg
 have b1:bits<256:=by omega
 have b2:g<256:=by omega
 obtain⟨x,hx⟩:=xq (bits*2^fr+g)
 obtain⟨y,hy⟩:=xq (count+fr)
 have hy16:y<16:=by omega
 have ey:(count:Int)+(fr:Int)=(y:Int):=by omega
 have e0:Go.bits .or .i64 (wrap64 ((bits:Int)*2^fr)) (g:Int)=(x:Int):=by rw[hx];exact Xt9 bits fr g b1 hfr hg
 have r0:RG B fr tt 249 x y xs (((w.setCell ⟨B+5,0,none⟩ (.int .i64 (x:Int))).setCell ⟨B+6,0,none⟩ (.int .i64 (y:Int))).drew):=((h.setBits _).setCount _).drew
 have q0:Below B w0 (((w.setCell ⟨B+5,0,none⟩ (.int .i64 (x:Int))).setCell ⟨B+6,0,none⟩ (.int .i64 (y:Int))).drew):=((hb.setCell (by simp) _).setCell (by simp) _).drew
 have bd:x<2^y:=by rw[hx,hy];exact bd0
 rw[←hx,←hy]
 have k0:KM w (((w.setCell ⟨B+5,0,none⟩ (.int .i64 (x:Int))).setCell ⟨B+6,0,none⟩ (.int .i64 (y:Int))).drew):=((KM.setCell h.bBits 0 _).trans (KM.setCell (h.setBits x).bCount 0 _)).drew
 have K0:=Hd k0
 clear k0
 have HP:=Hd hp;have R0:=Hd r0;have Q0:=Hd q0;have BD:=Hd bd
 clear hp h hb hp1 hp2 r0 q0 bd hbits hg hx hy bd0
 go_enter func261,ntmps261
 go_wp2_with fail
 go_region
 all_goals go_wp2_with fail
 go_loopg [] 16 (fun k wr=>∃b c ys,RG B fr tt 249 b c ys wr∧Below B w0 wr∧KM w wr∧b<2^c∧c≤k∧c<16∧ys.length+c≤900000+16∧Xb5 f tt k b c ys=Xb5 f tt 16 x y xs)
 case atStart=>exact⟨x,y,xs,R0.o,Q0.o,K0.o,BD.o,by omega,hy16,by omega,rfl⟩
 case round=>
  obtain⟨b,c,ys,hr,hq,hkm,hbc,hck,hc16,hlen,hdr⟩:=hrel
  obtain⟨v,hv,hown⟩:=hr.txt
  have k5:=cell_of_one hr.bBits
  have k3:=cell_of_one hr.bTo
  have k6:=cell_of_one hr.bCount
  have k4:=cell_of_one hr.bPass
  have l5:=free_of_one hr.bBits
  have l6:=free_of_one hr.bCount
  clear e0 c5 c2 c6 f5 f6
  have HKM:=Hd hkm
  clear hkm
  by_cases hlt:c<tt
  ·have HR:=Hd hr;have HQ:=Hd hq;have HD:=Hd hdr
   clear hr hq hdr hv hown hbc
   go_wp2_with fail
   go_end0
   refine⟨rfl,HQ.o,HKM.o,b,c,ys,?_,HR.o⟩
   rw[←HD.o]
   cases gk<;>simp[Xb5,hlt]
  ·obtain⟨d,hd⟩:=xq (c-tt)
   obtain⟨q,hq'⟩:=xq (b/2^d)
   have ed:(c:Int)-(tt:Int)=(d:Int):=by omega
   have eq:(b:Int)/2^d=(q:Int):=by rw[hq'];push_cast;rfl
   have hd16:d<16:=by omega
   obtain⟨r,hr'⟩:=xq (b%2^d)
   have hb16:b<65536:=Nat.lt_of_lt_of_le hbc (Nat.pow_le_pow_right (n:=2) (by omega) (show c≤16 by omega))
   have em:Go.bits .and .i64 (b:Int) (wrap64 (wrap64 (2^d)-1))=(r:Int):=by rw[hr'];exact Xqx b d hb16 (by omega)
   have EM:=Hd em;have W:=Hd hr'
   clear em hr'
   have hqlt:q<2^tt:=by rw[hq'];apply Nat.div_lt_of_lt_mul;rw[←Nat.pow_add];have:d+tt=c:=by omega
                        rw[this];exact hbc
   have r1:=hr.setCount d
   have q1:Below B w0 (wr.setCell ⟨B+6,0,none⟩ (.int .i64 (d:Int))):=hq.setCell (by simp) _
   have hylen:ys.length≤1000000:=by omega
   have o1:=(ownsRow_setCell_other (a:=⟨B+6,0,none⟩) hown (Xec (b:=B+6) (t:=3) hown hr.bCount (by decide)) (.int .i64 (d:Int))).drew
   have P1:=Hd (HP.o (wr.setCell ⟨B+6,0,none⟩ (.int .i64 (d:Int))).drew v ys q q1.drew ((Below.heap_setCell _ _ _ _ (by simp)).trans hv) o1 hylen hqlt)
   have O1:=Hd o1
   have K1:=Hd (KM.setCell hr.bCount 0 (.int .i64 (d:Int)))
   have V1:Hid ((wr.setCell ⟨B+6,0,none⟩ (.int .i64 (d:Int))).drew.heap[B+1]?=some (.cells #[v] 82 (0,0))):=(Below.heap_setCell _ _ _ _ (by simp)).trans hv
   have R1:=Hd r1;have HD:=Hd hdr;have Q1:=Hd q1;have X:=Hd hq';have Y:=Hd hd;have Z:=Hd hbc
   clear hr hq hdr hv hown hbc r1 q1 hq' hd hqlt o1
   go_wp2_with fail
   go_region_held3 (fun w'=>w'.cell? ⟨B+4,0,none⟩=some (.func (.func 249) #[] #[.pointer (some ⟨B+1,0,none⟩)])∧w'.cell? ⟨B+5,0,none⟩=some (.int .i64 (b:Int))∧w'.cell? ⟨B+6,0,none⟩=some (.int .i64 (d:Int)))
    (first|exact⟨cell_of_one R1.o.drew.bPass,cell_of_one R1.o.drew.bBits,cell_of_one R1.o.drew.bCount⟩|exact⟨cell_of_one HR3.o.bPass,cell_of_one HR3.o.bBits,cell_of_one HR3.o.bCount⟩)
    (first|(go_at_call 249;refine(P1.o).mono ?_;rintro e w2 ⟨rfl,hn,hf⟩;have HR3:=Hd (RG.passed R1.o.drew O1.o hn hf);clear hn))
   all_goals (have k5:=cell_of_one HR3.o.bBits;have k6:=cell_of_one HR3.o.bCount;have l5:=free_of_one HR3.o.bBits;have em:=EM.o)
   all_goals go_wp2_with fail
   all_goals go_region
   all_goals go_wp2_with fail
   all_goals clear em
   all_goals go_roundg (gk-1)
   case measure=>omega
   case rel=>
    refine⟨r,d,ys++[f q],(HR3.o.setBits r).drew,(((Q1.o.drew.trans hf.below).setCell (by simp) _).drew),?_,?_,by omega,hd16,by simp;omega,?_⟩
    ·exact(((HKM.o.trans K1.o).drew.trans (hf.km V1.o O1.o)).trans (KM.setCell HR3.o.bBits 0 _)).drew
    ·rw[W.o];exact Nat.mod_lt _ (Nat.pow_pos (by omega))
    ·rw[←HD.o]
     obtain⟨k',rfl⟩:∃k',gk=k'+1:=⟨gk-1,by omega⟩
     rw[Xe0 _ _ _ _ _ _ hlt,←Y.o,←W.o,←X.o]
     rfl
theorem Ynn (w:World)(Bt g base:Nat)(v:Value)(xs:List Nat)
    (hT:w.heap[Bt]?=some (.cells #[v] 82 (0,0))) (hown:w.ownsRow base 5 1 v xs.length (xs.map U)) (hbase:base≤w.heap.size) (hBt:base≤Bt)
    (hn:xs.length≤1000000) (hg:g<256):
    Calls prog 249 #[.int .i64 g,.pointer (some ⟨Bt,0,none⟩)] w fun e w'=>e=.returned (.tuple #[])∧
     (∃v',w'.heap[Bt]?=some (.cells #[v'] 82 (0,0))∧w'.ownsRow base 5 1 v' (xs.length+1) ((xs++[g]).map U))∧Frame1 base Bt v w w':=by
 obtain⟨i0,hi0,hz0,hz1,hz2⟩:=info_parts Xhw
 have hc:=cell_of_one hT
 have hf:=free_of_one hT
 have lt:=zY hT
 have g0:(0:Int)≤(g:Int):=Int.natCast_nonneg _
 have g1:(g:Int)<256:=by omega
 have hne:v.ownBlock≠some Bt:=Xec hown hT (by decide)
 have hTA:(w.alloc (.cells #[.int .u8 g] 5)).heap[Bt]?=some (.cells #[v] 82 (0,0)):=Xae hT
 have HT:=Hd hT
 have HTA:=Hd hTA
 have HNE:=Hd hne
 clear hT hTA hne
 go_enter func249,ntmps249
 go_wp2_with ((at_builtin;refine wpList_append_lies _ rfl _ _ _ rfl base 5 i0 _ 1 1 underlying82 hi0 hz0 hz1 hz2 rfl (by omega) v xs.length (xs.map U) rfl (hown.alloc _) ⟨w.heap.size,0,none⟩ 1 1 [.int .u8 g] rfl rfl (World.news_of_block (cs:=#[.int .u8 g]) (t:=5) (fr:=(0,0)) (zN w _)) (by simp[Value.oneCell']) (by omega) (by unfold maxLen;omega) (by omega) (by simp;omega) (w.heap.size+1) (by simp) ?_;intro gg cap w1 hown1 hgrow hat hlt;have hc1:=Xdk hgrow HTA.o HNE.o;have hc2:=cell_of_one hc1;have hc3:=free_of_one hc1;have HC1:=Hd hc1;clear hc1))
 all_goals go_end0
 all_goals (refine⟨rfl,?_⟩;rw[List.map_append];exact Xlu hown1 hgrow (((zR _ _).alloc (zL _) _)) HC1.o (by decide) hBt hbase hown)
def alphCells:List Value:=alph.map U
theorem Xje (k:Nat)(h:k<64):alphCells[k]?=some (U (al k)):=by
 have hl:k<alph.length:=by simp[alph];omega
 simp[alphCells,al,List.getD,List.getElem?_eq_getElem hl]
theorem Xo6 {w:World}(h:Tab w):w.rangeAt 3 0 alphCells:=by
 intro j v hv
 have hj:j<64:=by
  have:=(List.getElem?_eq_some_iff.1 hv).1
  simpa [alphCells,alph] using this
 rw[Xje j hj] at hv
 cases hv
 rw[Nat.zero_add]
 exact h.cell j hj
theorem Yee (k:Nat)(h:k<64)(w:World):(Instr.index 184 (.agg alphCells.toArray) (.int .i64 k)).run prog w=.ok (.int .u8 (al k)) w:=by
 have hi:(0:Int)≤(k:Int)∧(k:Int)<64:=by omega
 simp[Instr.index,run_underlying underlying184,asIntOf,hi,go_sem]
 rw[qP h,Xje k h]
 rfl
theorem Ymi:Keyed prog 5:=int_keyed underlying5
theorem Yjo (w:World):(zeroValue 3).run prog w=.ok (.int .i64 0) w:=by kernel_rfl
theorem Ymg (w:World):(Instr.makeMap 299 (some (.int .i64 64))).run prog w=.ok (.map (some w.heap.size)) (w.alloc (.map #[] 0)):=by
 kernel_rfl
def Yb7 (k:Nat):DataW Unit:=(List.range k).foldl (fun D i=>D.put (.int .u8 (al i)) (.lit (.int .i64 i))) (.map [])
theorem Xxm (k:Nat):Yb7 (k+1)=(Yb7 k).put (.int .u8 (al k)) (.lit (.int .i64 k)):=by simp[Yb7,List.range_succ]
theorem Ycj:∀c:Nat,c<256→Maps.has (Yb7 64) (.int .u8 c)=(vOf c).isSome:=by decide+kernel
theorem Yck:∀c:Nat,c<256→(match (Yb7 64).atKey (.int .u8 c) (.lit (.int .i64 0)) with|.lit (.int .i64 x)=>decide (x=((vOf c).getD 0:Nat))|_=>false)=true:=by decide+kernel
theorem Ygv (c:Nat)(h:c<256)(x:Int)(hx:(Yb7 64).atKey (.int .u8 c) (.lit (.int .i64 0))=.lit (.int .i64 x)):x=((vOf c).getD 0:Nat):=by
 have:=Yck c h
 rw[hx] at this
 simpa using this
theorem Xvc (w:World)(ht:Tab w):
    Calls prog 250 #[] w fun e w'=>e=.returned (.map (some w.heap.size))∧w'.ownsMap prog 5 (plainElem (H:=Unit) prog 3) w.heap.size 64 (Yb7 64)∧Bw w w':=by
 have hmm:=Ymg
 have hr:=Xo6 ht
 have RA:Hid ((w.alloc (.map #[] 0)).rangeAt 3 0 alphCells):=Xo6 (ht.below ((zR _ _).alloc (zL _) _) ht.size)
 have hi:(prog.info? 184).map (·.size)=some alphCells.length:=by kernel_rfl
 obtain⟨cs,hcs⟩:=xq alphCells
 rw[←hcs] at RA hi
 have HCS:=Hd hcs;have HI:=Hd hi
 clear hr ht hcs hi
 go_enter func250,ntmps250
 go_wp2_with (with_reducible refine wpList_load_mid rfl 184 _ rfl 3 0 rfl cs _ RA.o underlying184 rfl HI.o ?_)
 go_loopg [6] 64 (fun k i wr=>∃j,j≤64∧k=64-j∧i=.int .i64 (j:Int)∧wr.ownsMap prog 5 (plainElem (H:=Unit) prog 3) w.heap.size j (Yb7 j)∧Bw w wr)
 case atStart=>exact⟨0,by omega,by omega,rfl,World.ownsMap_made _ _ _ _,(zR _ _).alloc (zL _) _⟩
 case round=>
  obtain⟨j,hj,rfl,rfl,hown,hb⟩:=hrel
  by_cases hlt:j<64
  ·have hx:∀w,(Instr.index 184 (.agg cs.toArray) (.int .i64 (j:Int))).run prog w=.ok (.int .u8 (al j)) w:=fun w=>by rw[HCS.o];exact Yee j hlt w
   have hal:=Yfl j
   have hkey:keyOf prog 5 (.int .u8 (al j))=some (.int .u8 (al j)):=keyOf_int_mk underlying5 (WalkArith.wf_u8 (by omega))
   go_wp2_with (at_mapUpdate;refine wpList_mapUpdate_own _ rfl _ _ _ 299 rfl 5 3 Ymi underlying299 _ w.heap.size j _ rfl hown (by unfold maxLen;omega) _ _ _ rfl rfl hkey _ [] (plainElem_int underlying3 (WalkArith.wf_i64 (by omega))) ?_;intro w1 hown1 hgrow1)
   go_roundg (64-(j+1))
   case measure=>omega
   case rel=>exact⟨j+1,by omega,rfl,by go_num,by rw[Xxm];exact hown1,hb.grown hgrow1 hb.size (fun j hj=>by cases hj;exact zL _)⟩
  ·obtain rfl:j=64:=by omega
   go_wp2_with fail
   go_ret
   exact⟨rfl,hown,hb⟩
theorem Xa5 {P:Program}(t:TypeId)(ht:P.underlying t=some .string)(s:ByteArray)(k:IntKind)(i:Int)(j:Nat)(hi:i=j)(hj:j<s.size)(w:World):
    (Instr.index t (.string s) (.int k i)).run P w=.ok (.int .u8 (((bs s).getD j 0:Nat):Int)) w:=by
 subst hi
 rw[run_index_string w t s _ _ ht,dif_pos ⟨by omega,by omega⟩,Yiv s j hj]
 rfl
theorem Xa4 {a b:Int}(h:a=b):(a==b)=true:=by rw[h];exact beq_self_eq_true b
theorem Xaj {a b:Int}(h:¬a=b):(a==b)=false:=beq_eq_false_iff_ne.2 h
theorem Xam {a b:Int}(h:¬a=b):(a !=b)=true:=bne_iff_ne.2 h
theorem Xau {a b:Int}(h:a=b):(a !=b)=false:=by rw[h];simp
theorem Ye0 (s:ByteArray)(w:World)(hs:s.size≤maxLen):
    Rx 248 #[.string s] w (.int .i64 (Xbk (bs s):Nat)):=by
 unfold maxLen at hs
 by_cases h0:s.size=0
 ·have hf:Xbk (bs s)=0:=by unfold Xbk;rw[qP (by rw[Xaa];exact .inl h0),Xaa,h0]
  rw[hf]
  have h0':((s.size:Int)==0)=true:=Xa4 (by omega)
  clear hf
  go_enter func248,ntmps248
  go_wp2_with fail
  go_ret
  exact⟨rfl,rfl⟩
 ·have h0':((s.size:Int)==0)=false:=Xaj (by omega)
  by_cases h4:s.size%4=0
  ·have h4':((s.size:Int)%4 !=0)=false:=Xau (by omega)
   obtain⟨c1,hc1⟩:=xq ((bs s).getD (s.size-1) 0)
   obtain⟨c2,hc2⟩:=xq ((bs s).getD (s.size-2) 0)
   have hx:∀w,(Instr.index 9 (.string s) (.int .i64 ((s.size:Int)-1))).run prog w=.ok (.int .u8 (c1:Int)) w:=fun w=>by
    rw[Xa5 9 underlying9 s .i64 ((s.size:Int)-1) (s.size-1) (by omega) (by omega),hc1]
   have hx2:∀w,(Instr.index 9 (.string s) (.int .i64 ((s.size:Int)-2))).run prog w=.ok (.int .u8 (c2:Int)) w:=fun w=>by
    rw[Xa5 9 underlying9 s .i64 ((s.size:Int)-2) (s.size-2) (by omega) (by omega),hc2]
   by_cases hl:c1=61
   ·have hl':((c1:Int) !=61)=false:=Xau (by omega)
    by_cases hm:c2=61
    ·have hf:Xbk (bs s)=s.size-2:=by unfold Xbk;rw[qN (by rw[Xaa,←hc1];omega),qP (by rw[Xaa,←hc2];exact hm),Xaa]
     rw[hf]
     have hm':((c2:Int)==61)=true:=Xa4 (by omega)
     clear hf hc1 hc2 hl hm
     go_enter func248,ntmps248
     go_wp2_with fail
     go_ret
     refine⟨?_,rfl⟩
     simp;omega
    ·have hf:Xbk (bs s)=s.size-1:=by unfold Xbk;rw[qN (by rw[Xaa,←hc1];omega),qN (by rw[Xaa,←hc2];exact hm),Xaa]
     rw[hf]
     have hm':((c2:Int)==61)=false:=Xaj (by omega)
     clear hf hc1 hc2 hl hm
     go_enter func248,ntmps248
     go_wp2_with fail
     go_ret
     refine⟨?_,rfl⟩
     simp;omega
   ·have hf:Xbk (bs s)=s.size:=by unfold Xbk;rw[qP (by rw[Xaa,←hc1];exact .inr (.inr hl)),Xaa]
    rw[hf]
    have hl':((c1:Int) !=61)=true:=Xam (by omega)
    clear hf hc1 hc2 hl
    go_enter func248,ntmps248
    go_wp2_with fail
    go_ret
    exact⟨rfl,rfl⟩
  ·have h4':((s.size:Int)%4 !=0)=true:=Xam (by omega)
   have hf:Xbk (bs s)=s.size:=by unfold Xbk;rw[qP (by rw[Xaa];exact .inr (.inl h4)),Xaa]
   rw[hf]
   clear hf
   go_enter func248,ntmps248
   go_wp2_with fail
   go_ret
   exact⟨rfl,rfl⟩
def Dr (w w':World):Prop:=∃q,w'=w.drewN q
abbrev Rz (f:FuncId)(xs:Array Value)(w:World)(v:Value):Prop:=Calls prog f xs w fun e w'=>e=.returned v∧Dr w w'
theorem Dr.refl (w:World):Dr w w:=⟨0,rfl⟩
theorem Xb2 (w:World)(a b:Nat):(w.drewN a).drewN b=w.drewN (a+b):=by simp[World.drewN,Nat.add_assoc]
theorem Dr.drewN {w w':World}(h:Dr w w')(q:Nat):Dr w (w'.drewN q):=by
 obtain⟨p,rfl⟩:=h;exact⟨p+q,Xb2 _ _ _⟩
theorem Dr.trans {a b c:World}(h:Dr a b)(h':Dr b c):Dr a c:=by obtain⟨q,rfl⟩:=h';exact h.drewN q
theorem Ycl (w:World)(c:Nat)(hc:c<256):Rx 268 #[.int .u8 (c:Int)] w (.int .i64 (Xgi c:Int)):=by
 have hk:c≤127∨(127<c∧c<194)∨(194≤c∧c≤223)∨(224≤c∧c≤239)∨(240≤c∧c≤244)∨244<c:=by omega
 have e0:Xgi c=if c≤127 then 1 else if c<194 then 0 else if c≤223 then 2 else if c≤239 then 3 else if c≤244 then 4 else 0:=rfl
 have E0:=Hd e0
 clear e0
 rcases hk with h|⟨h,h2⟩|⟨h,h2⟩|⟨h,h2⟩|⟨h,h2⟩|h
 all_goals
  go_enter func268,ntmps268
  go_wp2_with fail
  go_ret
  refine⟨?_,rfl⟩
  rw[E0.o]
  first
   |rw[qP (by omega)];rfl
   |rw[qN (by omega),qP (by omega)];rfl
   |rw[qN (by omega),qN (by omega),qP (by omega)];rfl
   |rw[qN (by omega),qN (by omega),qN (by omega),qP (by omega)];rfl
   |rw[qN (by omega),qN (by omega),qN (by omega),qN (by omega),qP (by omega)];rfl
   |rw[qN (by omega),qN (by omega),qN (by omega),qN (by omega),qN (by omega)];rfl
theorem Xet {f i c lo hi:Nat}(h1:(if i=1∧f=224 then 160 else if i=1∧f=240 then 144 else 128)=lo)(h2:(if i=1∧f=237 then 159 else if i=1∧f=244 then 143 else 191)=hi){b:Bool}(hb:b=(decide (lo≤c)&&decide (c≤hi))):Xg1 f i c=b:=by
 unfold Xg1;rw[h1,h2,hb]
theorem Xa0 {a b:Bool}(h:a=b):Ending.returned (.bool a)=.returned (.bool b):=by rw[h]
theorem Xo5 (w:World)(f i c:Nat)(hf:f<256)(hi:i<5)(hc:c<256):Rx 269 #[.int .u8 (f:Int),.int .i64 (i:Int),.int .u8 (c:Int)] w (.bool (Xg1 f i c)):=by
 obtain⟨b,hb⟩:=xq (Xg1 f i c)
 rw[←hb]
 have HB:=Hd hb
 clear hb
 by_cases h1:i=1
 ·subst h1
  have hk:(f≠224∧f≠237∧f≠240∧f≠244)∨f=224∨f=237∨f=240∨f=244:=by omega
  rcases hk with⟨h,h2,h3,h4⟩|rfl|rfl|rfl|rfl
  ·rcases(by omega:c<128∨(128≤c∧c≤191)∨191<c) with a|⟨a,a'⟩|a
   all_goals
    have q0:((f:Int)==224)=false:=Xaj (by omega)
    have q1:((f:Int)==237)=false:=Xaj (by omega)
    have q2:((f:Int)==240)=false:=Xaj (by omega)
    have q3:((f:Int)==244)=false:=Xaj (by omega)
    go_enter func269,ntmps269
    go_wp2_with fail
    go_ret
    refine⟨?_,rfl⟩
    rw[HB.o,Xet (lo:=128) (hi:=191) (by rw[qN (fun h'=>h h'.2),qN (fun h'=>h3 h'.2)]) (by rw[qN (fun h'=>h2 h'.2),qN (fun h'=>h4 h'.2)]) rfl]
    exact Xa0 (by rw[Bool.eq_iff_iff];simp only[Bool.and_eq_true,decide_eq_true_eq,false_iff,Bool.false_eq_true];omega)
  ·rcases(by omega:c<160∨(160≤c∧c≤191)∨191<c) with a|⟨a,a'⟩|a
   all_goals
    go_enter func269,ntmps269
    go_wp2_with fail
    go_ret
    refine⟨?_,rfl⟩
    rw[HB.o,Xet (lo:=160) (hi:=191) (by rfl) (by rfl) rfl]
    exact Xa0 (by rw[Bool.eq_iff_iff];simp only[Bool.and_eq_true,decide_eq_true_eq,false_iff,Bool.false_eq_true];omega)
  ·rcases(by omega:c<128∨(128≤c∧c≤159)∨159<c) with a|⟨a,a'⟩|a
   all_goals
    go_enter func269,ntmps269
    go_wp2_with fail
    go_ret
    refine⟨?_,rfl⟩
    rw[HB.o,Xet (lo:=128) (hi:=159) (by rfl) (by rfl) rfl]
    exact Xa0 (by rw[Bool.eq_iff_iff];simp only[Bool.and_eq_true,decide_eq_true_eq,false_iff,Bool.false_eq_true];omega)
  ·rcases(by omega:c<144∨(144≤c∧c≤191)∨191<c) with a|⟨a,a'⟩|a
   all_goals
    go_enter func269,ntmps269
    go_wp2_with fail
    go_ret
    refine⟨?_,rfl⟩
    rw[HB.o,Xet (lo:=144) (hi:=191) (by rfl) (by rfl) rfl]
    exact Xa0 (by rw[Bool.eq_iff_iff];simp only[Bool.and_eq_true,decide_eq_true_eq,false_iff,Bool.false_eq_true];omega)
  ·rcases(by omega:c<128∨(128≤c∧c≤143)∨143<c) with a|⟨a,a'⟩|a
   all_goals
    go_enter func269,ntmps269
    go_wp2_with fail
    go_ret
    refine⟨?_,rfl⟩
    rw[HB.o,Xet (lo:=128) (hi:=143) (by rfl) (by rfl) rfl]
    exact Xa0 (by rw[Bool.eq_iff_iff];simp only[Bool.and_eq_true,decide_eq_true_eq,false_iff,Bool.false_eq_true];omega)
 ·rcases(by omega:c<128∨(128≤c∧c≤191)∨191<c) with a|⟨a,a'⟩|a
  all_goals
   have q0:((i:Int)==1)=false:=Xaj (by omega)
   go_enter func269,ntmps269
   go_wp2_with fail
   go_ret
   refine⟨?_,rfl⟩
   rw[HB.o,Xet (lo:=128) (hi:=191) (by rw[qN (fun h'=>h1 h'.1),qN (fun h'=>h1 h'.1)]) (by rw[qN (fun h'=>h1 h'.1),qN (fun h'=>h1 h'.1)]) rfl]
   exact Xa0 (by rw[Bool.eq_iff_iff];simp only[Bool.and_eq_true,decide_eq_true_eq,false_iff,Bool.false_eq_true];omega)
def Xu8 (l:List Nat)(w:World)(e:Ending)(w':World):Prop:=
 ∃n:Nat,e=.returned (.tuple #[.int .i64 (n:Int),.bool (Xb7 l)])∧n≤l.length∧n≤4∧(Xb7 l=true→n=rn l)∧Dr w w'
theorem Yb9 (s:ByteArray)(c:Nat)(hc:c=(bs s).getD 0 0)(h:0<s.size)(w:World):(Instr.index 9 (.string s) (.int .i64 0)).run prog w=.ok (.int .u8 (c:Int)) w:=by
 rw[Xa5 9 underlying9 s .i64 0 0 rfl h,hc]
theorem Xba (s:ByteArray)(i:Nat):(bs s).getD i 0<256:=by
 by_cases h:i<(bs s).length
 ·have:=Xgq s (bs s)[i] (zG h)
  simpa [List.getD,h] using this
 ·simp[List.getD,h]
theorem Xuz {s:ByteArray}(h:s.size=0):bs s=[]:=List.length_eq_zero_iff.1 (by rw[Xaa];exact h)
theorem Xeh {s:ByteArray}(h:s.size=0):s=⟨#[]⟩:=by
 rw[←Xd3 s,Xuz h];rfl
theorem Xd2 {s:ByteArray}(h:s.size≠0):s.toList.isEmpty=false:=by
 rw[List.isEmpty_eq_false_iff];intro e;apply h
 rw[←Xaa,bs,←ByteArray.toList_eq,e];rfl
theorem Xkv (s:ByteArray)(w:World)(hs:s.size≤maxLen):
    Calls prog 237 #[.string s] w (Xu8 (bs s) w):=by
 unfold maxLen at hs
 by_cases h0:s.size=0
 ·obtain rfl:=Xeh h0
  clear h0 hs
  go_enter func237,ntmps237
  go_wp2_with fail
  go_ret2
  exact⟨0,rfl,by simp,by omega,(fun h=>by cases h),Dr.refl _⟩
 ·obtain⟨f,hf⟩:=xq ((bs s).getD 0 0)
  have hf2:f<256:=by rw[hf];exact Xba s 0
  have x0:=Yb9 s f hf (by omega)
  have n0:=Xd2 h0
  obtain⟨z,hz⟩:=xq (Xgi f)
  have hz4:z≤4:=by rw[hz];exact Xj9 f
  have L0:Hid (∀w,Rx 268 #[.int .u8 (f:Int)] w (.int .i64 (z:Int))):=fun w=>by rw[hz];exact Ycl w f hf2
  have HF:=Hd hf;have HZ:=Hd hz
  clear hf hz
  by_cases hz0:z=0
  ·have z1:((z:Int)==0)=true:=Xa4 (by omega)
   go_enter func237,ntmps237
   go_wp2_with (go_at_call 268;refine(L0.o _).mono ?_;rintro e w' ⟨rfl,rfl⟩)
   go_ret2
   have hw:Xb7 (bs s)=false:=Xjp _ (by rw[←HF.o,←HZ.o];exact fun h=>h.1 hz0)
   exact⟨0,by rw[hw];rfl,by simp,by omega,(fun h=>by rw[hw] at h;cases h),Dr.refl _⟩
  ·have z1:((z:Int)==0)=false:=Xaj (by omega)
   go_enter func237,ntmps237
   go_wp2_with (go_at_call 268;refine(L0.o _).mono ?_;rintro e w' ⟨rfl,rfl⟩)
   go_loopg [2] 3 (fun k i wr=>∃n:Nat,1≤n∧n≤z∧n≤s.size∧k=4-n∧i=.int .i64 (n:Int)∧Hid (∀j,1≤j→j<n→Xg1 f j ((bs s).getD j 0)=true)∧Dr w wr)
   case atStart=>exact⟨1,by omega,by omega,by omega,rfl,rfl,(fun j a b=>by omega),Dr.refl _⟩
   case round=>
    obtain⟨n,h1,h2,h3,rfl,rfl,hc,hd⟩:=hrel
    have exit:∀(b:Bool) (w':World),Dr w w'→b=((n:Int)==(z:Int))→(n=z∨(n<z∧(s.size≤n∨Xg1 f n ((bs s).getD n 0)=false)))→Xu8 (bs s) w (.returned (.tuple #[.int .i64 (n:Int),.bool b])) w':=by
     intro b w' hd' hb hex
     rcases hex with rfl|⟨hlt,hno⟩
     ·have hw:Xb7 (bs s)=true:=(Xca _).2 (by rw[←HF.o,←HZ.o];exact⟨hz0,by rw[Xaa];exact h3,hc.o⟩)
      exact⟨n,by rw[hb,hw];simp,by rw[Xaa];exact h3,by omega,(fun _=>by rw[(Xfr hw).1,←HF.o,←HZ.o]),hd'⟩
     ·have hw:Xb7 (bs s)=false:=Xjp _ (by
         rw[←HF.o,←HZ.o,Xaa];rintro⟨_,k2,k3⟩
         rcases hno with h|h
         ·omega
         ·rw[k3 n h1 hlt] at h;cases h)
      exact⟨n,by rw[hb,hw,Xaj (by omega)],by rw[Xaa];exact h3,by omega,(fun h=>by rw[hw] at h;cases h),hd'⟩
    have EX:=Hd exit;have HD:=Hd hd
    clear exit hd
    by_cases a:n<z
    ·have a1:decide ((n:Int)<(z:Int))=true:=by simpa using a
     have z3:((n:Int)==(z:Int))=false:=Xaj (by omega)
     by_cases b:n<s.size
     ·have b1:decide ((n:Int)<(s.size:Int))=true:=by simpa using b
      obtain⟨c,hcc⟩:=xq ((bs s).getD n 0)
      have hc2:c<256:=by rw[hcc];exact Xba s n
      have xn:∀w,(Instr.index 9 (.string s) (.int .i64 (n:Int))).run prog w=.ok (.int .u8 (c:Int)) w:=fun w=>by rw[Xa5 9 underlying9 s .i64 n n rfl b,hcc]
      by_cases u:Xg1 f n c=true
      ·have CC:Hid (∀q,Calls prog 269 #[.int .u8 (f:Int),.int .i64 (n:Int),.int .u8 (c:Int)] (wr.drewN q) fun e w'=>e=.returned (.bool true)∧w'=wr.drewN q):=fun q=>(Xo5 _ f n c hf2 (by omega) hc2).mono fun e w' h=>⟨by rw[←u];exact h.1,h.2.symm⟩
       have U:=Hd u;have HCC:=Hd hcc
       clear u hcc
       go_wp2_with fail
       go_quiet ((go_at_call 269;exact Calls.quiet_of_same (CC.o _)))
       go_wp2_with fail
       go_roundg (4-(n+1))
       case measure=>omega
       case rel=>exact⟨n+1,by omega,by omega,by omega,rfl,by go_num,(fun j k1 k2=>by
        by_cases e:j=n
        ·rw[e,←HCC.o];exact U.o
        ·exact hc.o j k1 (by omega)),HD.o.drewN _⟩
      ·have u':Xg1 f n c=false:=by simpa using u
       have CC:Hid (∀q,Calls prog 269 #[.int .u8 (f:Int),.int .i64 (n:Int),.int .u8 (c:Int)] (wr.drewN q) fun e w'=>e=.returned (.bool false)∧w'=wr.drewN q):=fun q=>(Xo5 _ f n c hf2 (by omega) hc2).mono fun e w' h=>⟨by rw[←u'];exact h.1,h.2.symm⟩
       have U:=Hd u';have HCC:=Hd hcc
       clear u u' hcc
       go_wp2_with fail
       go_quiet ((go_at_call 269;exact Calls.quiet_of_same (CC.o _)))
       go_wp2_with fail
       go_ret2
       exact EX.o _ _ (HD.o.drewN _) (Xaj (by omega)).symm (.inr ⟨a,.inr (by rw[←HCC.o];exact U.o)⟩)
     ·have b1:decide ((n:Int)<(s.size:Int))=false:=by simpa using b
      go_wp2_with fail
      go_quiet (fail)
      go_wp2_with fail
      go_ret2
      exact EX.o _ _ (HD.o.drewN _) (Xaj (by omega)).symm (.inr ⟨a,.inl (by omega)⟩)
    ·have a1:decide ((n:Int)<(z:Int))=false:=by simpa using a
     have z3:((n:Int)==(z:Int))=true:=Xa4 (by omega)
     go_wp2_with fail
     go_quiet (fail)
     go_wp2_with fail
     go_ret2
     exact EX.o _ _ (HD.o.drewN _) (Xa4 (by omega)).symm (.inl (by omega))
def Yjd (w:World)(e:Ending)(w':World):Prop:=∃r:Int,e=.returned (.int .i32 r)∧w=w'
theorem Xvg (s:ByteArray)(w:World)(h0:0<s.size)(hs:s.size≤4):
    Calls prog 238 #[.string s] w (Yjd w):=by
 obtain⟨f,hf⟩:=xq ((bs s).getD 0 0)
 have hf2:f<256:=by rw[hf];exact Xba s 0
 have x0:=Yb9 s f hf h0
 clear hf
 by_cases h1:1<s.size
 all_goals
  go_enter func238,ntmps238
  go_wp2_with fail
  go_loopg [3,4] 3 (fun k r i wr=>∃(n:Nat) (x:Int),1≤n∧n≤s.size∧k=4-n∧i=.int .i64 (n:Int)∧r=.int .i32 x∧w=wr)
  case atStart=>exact⟨1,_,by omega,by omega,rfl,rfl,rfl,rfl⟩
  case round=>
   obtain⟨n,x,hn,hn2,rfl,rfl,rfl,rfl⟩:=hrel
   by_cases b:n<s.size
   ·obtain⟨c,hcc⟩:=xq ((bs s).getD n 0)
    have hc2:c<256:=by rw[hcc];exact Xba s n
    have xn:∀w,(Instr.index 9 (.string s) (.int .i64 (n:Int))).run prog w=.ok (.int .u8 (c:Int)) w:=fun w=>by rw[Xa5 9 underlying9 s .i64 n n rfl b,hcc]
    clear hcc
    go_wp2_with fail
    go_roundg (4-(n+1))
    case measure=>omega
    case rel=>exact⟨n+1,_,by omega,by omega,rfl,by go_num,rfl,rfl⟩
   ·go_wp2_with fail
    go_ret
    exact⟨_,rfl,rfl⟩
theorem Xbz (t:ByteArray)(a b:Nat):bs (t.extract a b)=((bs t).take b).drop a:=by
 unfold bs
 simp[ByteArray.data_extract,Array.toList_extract,List.extract_eq_take_drop,List.drop_take]
theorem Xom (t:ByteArray)(a:Nat):bs (t.extract a t.size)=(bs t).drop a:=by
 rw[Xbz,List.take_of_length_le (by rw[Xaa];exact zL _)]
theorem Yiu (t:ByteArray)(b:Nat):bs (t.extract 0 b)=(bs t).take b:=by
 rw[Xbz];simp
def Yly (l:List Nat)(w:World)(e:Ending)(w':World):Prop:=
 ∃(r:Int) (er:Int),e=.returned (.tuple #[.int .i32 r,.int .i64 (rn l:Int),.int .i64 er])∧(rn l≠0→er=0)∧(rn l=0→er≠0)∧Dr w w'
theorem Xq6 (s:ByteArray)(w:World)(hs:s.size≤maxLen):
    Calls prog 186 #[.string s] w (Yly (bs s) w):=by
 have M:=Hd (Xkv s w hs)
 unfold maxLen at hs
 by_cases h0:s.size=0
 ·obtain rfl:=Xeh h0
  clear h0 hs M
  go_enter func186,ntmps186
  go_wp2_with fail
  go_ret3
  exact⟨0,1,rfl,(fun h=>absurd rfl h),(fun _=>by decide),Dr.refl _⟩
 ·have n0:=Xd2 h0
  go_enter func186,ntmps186
  go_wp2_with fail
  refine M.o.mono ?_
  rintro e w1 ⟨n,rfl,hn,hn4,hw,hd⟩
  rw[Xaa] at hn
  cases hb:Xb7 (bs s)
  ·have hr:=Xkl hb
   have HR:=Hd hr
   clear hw hr hb M
   by_cases z:n=0
   ·have z1:((n:Int)==0)=true:=Xa4 (by omega)
    go_wp2_with fail
    go_ret3
    exact⟨0,6,by rw[HR.o];rfl,(fun h=>absurd HR.o h),(fun _=>by decide),hd⟩
   ·have z1:((n:Int)==0)=false:=Xaj (by omega)
    by_cases y:n=s.size
    ·have y1:((n:Int)==(s.size:Int))=true:=Xa4 (by omega)
     go_wp2_with fail
     go_ret3
     exact⟨0,23,by rw[HR.o];rfl,(fun h=>absurd HR.o h),(fun _=>by decide),hd⟩
    ·have y1:((n:Int)==(s.size:Int))=false:=Xaj (by omega)
     go_wp2_with fail
     go_ret3
     exact⟨0,3,by rw[HR.o];rfl,(fun h=>absurd HR.o h),(fun _=>by decide),hd⟩
  ·obtain rfl:=hw hb
   have hp:=(Xfr hb).2
   obtain⟨n,hn'⟩:=xq (rn (bs s))
   rw[←hn'] at hn hn4 hp⊢
   have HN:=Hd hn'
   clear hw hb M hn'
   go_wp2_with (go_at_call 238;refine(Xvg _ _ (by rw[ByteArray.size_extract];omega) (by rw[ByteArray.size_extract];omega)).mono ?_;rintro e w' ⟨r,rfl,rfl⟩)
   go_ret3
   exact⟨r,0,by rw[HN.o];rfl,(fun _=>rfl),(fun h=>by rw[HN.o] at hp;omega),hd⟩
def Yl3 (l:List Nat)(w:World)(e:Ending)(w':World):Prop:=
 ∃(n:Nat) (er:Int),e=.returned (.tuple #[.int .i64 (n:Int),.int .i64 er])∧(vld l=true→er=0)∧(vld l=false→er≠0)∧Dr w w'
theorem Xmh (s:ByteArray)(w:World)(hs:s.size≤maxLen):
    Calls prog 145 #[.string s] w (Yl3 (bs s) w):=by
 have hs':=hs
 have HS:=Hd hs'
 clear hs'
 unfold maxLen at hs
 go_enter func145,ntmps145
 go_wp2_with fail
 go_loopg [4] s.size (fun k i wr=>∃n:Nat,n≤s.size∧k=s.size-n∧i=.int .i64 (n:Int)∧Hid (vld (bs s)=vld ((bs s).drop n))∧Dr w wr)
 case atStart=>exact⟨0,by omega,rfl,rfl,rfl,Dr.refl _⟩
 case round=>
  obtain⟨n,hn,rfl,rfl,hv,hd⟩:=hrel
  by_cases b:n<s.size
  ·have hsz:(s.extract n s.size).size=s.size-n:=by rw[ByteArray.size_extract];omega
   have D:=Hd (Xq6 (s.extract n s.size) wr (by rw[hsz];unfold maxLen;omega))
   have hl:=(Xrf ((bs s).drop n)).1
   rw[List.length_drop,Xaa] at hl
   clear hsz
   go_wp2_with fail
   refine D.o.mono ?_
   rintro e w1 ⟨r,er,rfl,h1,h2,hd1⟩
   rw[Xom] at h1 h2⊢
   obtain⟨m,hm⟩:=xq (rn ((bs s).drop n))
   rw[←hm] at hl h1 h2⊢
   have hne:(bs s).drop n≠[]:=by intro e;have:=congrArg List.length e;rw[List.length_drop,Xaa] at this;simp at this;omega
   have hst:=Xnd hne
   rw[←hm,List.drop_drop] at hst
   by_cases z:m=0
   ·have q:=h2 z
    have q1:(er !=0)=true:=Xam q
    have ST:=Hd hst;have H2:=Hd h2;have H1:=Hd h1
    clear hst hm h1 h2 hne D
    go_wp2_with fail
    go_ret2
    exact⟨n,_,rfl,(fun h=>by rw[hv.o,ST.o,z] at h;simp at h),(fun _=>q),hd.trans hd1⟩
   ·obtain rfl:=h1 z
    have ST:=Hd hst
    clear hst hm h1 h2 hne D
    go_wp2_with fail
    go_roundg (s.size-(n+m))
    case measure=>omega
    case rel=>exact⟨n+m,by omega,rfl,by go_num,Hd (by rw[hv.o,ST.o];simp[z]),hd.trans hd1⟩
  ·go_wp2_with fail
   go_ret2
   exact⟨0,_,rfl,(fun _=>rfl),(fun h=>by rw[hv.o,List.drop_of_length_le (by rw[Xaa];omega)] at h;cases h),hd⟩
theorem Xvh (s:ByteArray)(w:World)(hs:s.size≤maxLen):
    Calls prog 136 #[.string s] w fun e w'=>e=.returned (.bool (vld (bs s)))∧Dr w w':=by
 have C:=Hd (Xmh s w hs)
 clear hs
 go_enter func136,ntmps136
 go_wp2_with fail
 refine C.o.mono ?_
 rintro e w1 ⟨n,er,rfl,h1,h2,hd⟩
 cases hv:vld (bs s)
 ·have q:(er==0)=false:=Xaj (h2 hv)
  have HV:=Hd hv
  clear h1 h2 hv C
  go_wp2_with fail
  go_ret
  exact⟨by rw[HV.o];rfl,hd⟩
 ·obtain rfl:=h1 hv
  have HV:=Hd hv
  clear h1 h2 hv C
  go_wp2_with fail
  go_ret
  exact⟨by rw[HV.o];rfl,hd⟩
def Yfs (l:List Nat):Nat:=if l.length≤1 then l.getD 0 0 else l.getD 0 0%2^(7-l.length)
def vst (l:List Nat)(n:Nat):Nat:=((l.take n).drop 1).foldl (fun r x=>r*64+x%64) (Yfs l)
theorem Xs9 (l:List Nat)(n:Nat)(h1:1≤n)(h:n<l.length):vst l (n+1)=vst l n*64+l.getD n 0%64:=by
 unfold vst
 rw[List.take_succ_eq_append_getElem h,List.drop_append_of_le_length (by simp;omega),List.foldl_append]
 simp[List.getD,List.getElem?_eq_getElem h]
theorem Xq3 (l:List Nat):vst l 1=Yfs l:=by
 unfold vst;cases l<;>simp
theorem Yim (l:List Nat)(h:rn l≠0):cpt l=vst (l.take (rn l)) (rn l):=by
 have hl:=(Xrf l).1
 unfold cpt vst Yfs
 rw[List.take_take,Nat.min_self,List.length_take,Nat.min_eq_left hl]
 have e:(l.take (rn l)).getD 0 0=l.getD 0 0:=by
  simp only[List.getD_eq_getElem?_getD,List.getElem?_take,qP (show 0<rn l by omega)]
 rw[e]
theorem Ygs (l:List Nat)(hb:l.getD 0 0<256)(h:1<l.length)(h4:l.length≤4):Yfs l<2^(7-l.length):=by
 unfold Yfs;rw[qN (by omega)];exact Nat.mod_lt _ (Nat.two_pow_pos _)
theorem Yjr (l:List Nat)(hb:l.getD 0 0<256)(h1:1<l.length)(h4:l.length≤4):∀n,1≤n→n≤l.length→vst l n<2^(7-l.length)*64^(n-1):=by
 intro n hn
 induction n with
 |zero=>omega
 |succ n ih=>
  intro hle
  by_cases h:n=0
  ·subst h;rw[Xq3];simpa using Ygs l hb h1 h4
  ·have:=ih (by omega) (by omega)
   rw[Xs9 l n (by omega) (by omega)]
   have e:64^(n+1-1)=64^(n-1)*64:=by rw[←Nat.pow_succ];congr 1;omega
   rw[e,←Nat.mul_assoc]
   have hm:l.getD n 0%64<64:=Nat.mod_lt _ (by decide)
   omega
theorem Ygq (l:List Nat)(hb:l.getD 0 0<256)(h1:1<l.length)(h4:l.length≤4)(n:Nat)(hn:1≤n)(hle:n<l.length):vst l n<32768:=by
 have:=Yjr l hb h1 h4 n hn (by omega)
 rcases(by omega:l.length=2∨l.length=3∨l.length=4) with h|h|h
 ·rw[h] at this hle;obtain rfl:n=1:=by omega
  simp at this;omega
 ·rw[h] at this hle
  rcases(by omega:n=1∨n=2) with rfl|rfl<;>simp at this<;>omega
 ·rw[h] at this hle
  rcases(by omega:n=1∨n=2∨n=3) with rfl|rfl|rfl<;>simp at this<;>omega
theorem Yi8 (k:Nat)(hk:k≤7)(c:Nat)(hc:c<256):Go.bits .and .i32 (c:Int) ((2:Int)^k-1)=((c%2^k:Nat):Int):=by
 rw[bits_mask .i32 31 (by decide) wraps_i32 k (by omega) (c:Int) (by omega) (by omega)]
 simp
theorem Ym8 (c:Nat)(hc:c<256):Go.bits .and .u8 (c:Int) 63=((c%64:Nat):Int):=by
 rw[u8_and63 _ (by omega) (by omega)];simp
theorem or6 (r c:Nat)(hr:r<32768)(hc:c<64):Go.bits .or .i32 ((r:Int)*64) (c:Int)=((r*64+c:Nat):Int):=by
 have:=bits_join .i32 31 (by decide) wraps_i32 6 ((r:Int)*64) (c:Int) (by omega) (by omega) (by omega) (by omega) (by omega) (by omega)
 rw[this];simp
theorem Xxo (s:ByteArray)(w:World)(h0:0<s.size)(hs:s.size≤4):
    Rx 238 #[.string s] w (.int .i32 ((vst (bs s) s.size:Nat):Int)):=by
 obtain⟨f,hf⟩:=xq ((bs s).getD 0 0)
 have hf2:f<256:=by rw[hf];exact Xba s 0
 have x0:=Yb9 s f hf h0
 have hl:=Xaa s
 by_cases h1:s.size=1
 ·have R:Hid (vst (bs s) s.size=f):=Hd (by rw[h1,Xq3];unfold Yfs;rw[qP (by omega),hf])
  have d1:decide ((1:Int)<(s.size:Int))=false:=by simp;omega
  clear hf hl
  go_enter func238,ntmps238
  go_wp2_with fail
  go_loopg [3,4] 3 (fun k r i wr=>r=.int .i32 (f:Int)∧i=.int .i64 1∧w=wr)
  case atStart=>exact⟨rfl,rfl,rfl⟩
  case round=>
   obtain⟨rfl,rfl,rfl⟩:=hrel
   go_wp2_with fail
   go_ret
   exact⟨by rw[R.o];rfl,rfl⟩
 ·have h2:1<s.size:=by omega
  have R:Hid (∀k,k=7-s.size→((Yfs (bs s):Nat):Int)=Go.bits .and .i32 (f:Int) ((2:Int)^k-1)):=Hd (by
   intro k hk;rw[Yi8 k (by omega) f hf2];unfold Yfs;rw[qN (by omega),hl,←hf,hk])
  have V:Hid (∀n,1≤n→n<s.size→vst (bs s) n<32768):=Hd (fun n a b=>Ygq (bs s) (by rw[←hf];exact hf2) (by omega) (by omega) n a (by omega))
  have N:Hid (∀n,1≤n→n<s.size→vst (bs s) (n+1)=vst (bs s) n*64+(bs s).getD n 0%64):=Hd (fun n a b=>Xs9 _ n a (by omega))
  have d1:decide ((1:Int)<(s.size:Int))=true:=by simp;omega
  clear hf hl
  have HS:=hs
  rcases(by omega:s.size=2∨s.size=3∨s.size=4) with h|h|h
  all_goals
   have R2:=R.o (7-s.size) rfl
   rw[h] at R2
   simp only[Nat.reduceSub,Int.reducePow,Int.reduceSub] at R2
   have R3:=Hd R2
   clear R2
   have L:((s.size:Nat):Int)=_:=congrArg _ h
   go_enter func238,ntmps238
   go_wp2_with fail
   go_loopg [3,4] 3 (fun k r i wr=>∃(n:Nat),1≤n∧n≤s.size∧k=4-n∧i=.int .i64 (n:Int)∧r=.int .i32 ((vst (bs s) n:Nat):Int)∧w=wr)
   case atStart=>exact⟨1,by omega,by omega,rfl,rfl,by rw[Xq3,R3.o],rfl⟩
   case round=>
    obtain⟨n,hn,hn2,rfl,rfl,rfl,rfl⟩:=hrel
    by_cases b:n<s.size
    ·obtain⟨c,hcc⟩:=xq ((bs s).getD n 0)
     have hc2:c<256:=by rw[hcc];exact Xba s n
     have xn:∀w,(Instr.index 9 (.string s) (.int .i64 (n:Int))).run prog w=.ok (.int .u8 (c:Int)) w:=fun w=>by rw[Xa5 9 underlying9 s .i64 n n rfl b,hcc]
     obtain⟨x,hx⟩:=xq (vst (bs s) n)
     have hx2:x<32768:=by rw[hx];exact V.o n hn b
     rw[←hx]
     have NX:Hid (vst (bs s) (n+1)=x*64+c%64):=Hd (by rw[hx,hcc];exact N.o n hn b)
     have a63:=Ym8 c hc2
     have o6:=or6 x (c%64) hx2 (Nat.mod_lt _ (by decide))
     clear hcc hx h
     go_wp2_with fail
     go_roundg (4-(n+1))
     case measure=>omega
     case rel=>exact⟨n+1,by omega,by omega,rfl,by go_num,by rw[NX.o];first|rfl|(congr 1),rfl⟩
    ·obtain rfl:n=s.size:=by omega
     go_wp2_with fail
     go_ret
     exact⟨rfl,rfl⟩
end Go.Proofs.YtjolcnopipbkhaaGreatDoor
/- utf8: Decode exactly, control characters, the iterator Runes, Printable. -/
namespace Go.Proofs.YtjolcnopipbkhaaGreatDoor
open Go.Proofs.Tryz
open Go.RowKit Go.Shelf
attribute [local go_sem] Oper.semAt_some
set_option linter.unusedVariables false
set_option maxHeartbeats 100000000
set_option maxRecDepth 100000
def Ylw (l:List Nat)(w:World)(e:Ending)(w':World):Prop:=
 ∃(r er:Int),e=.returned (.tuple #[.int .i32 r,.int .i64 (rn l:Int),.int .i64 er])∧(rn l≠0→er=0∧r=(cpt l:Int))∧(rn l=0→er≠0)∧Dr w w'
theorem Dr.below {w w':World}(h:Dr w w'):Bw w w':=by
 obtain⟨q,rfl⟩:=h
 exact⟨rfl,rfl,rfl,zL _,fun b hb=>rfl⟩
theorem Dr.size {w w':World}(h:Dr w w'):w'.heap.size=w.heap.size:=by obtain⟨q,rfl⟩:=h;rfl
theorem Xxs (s:ByteArray)(w:World)(hs:s.size≤maxLen):
    Calls prog 186 #[.string s] w (Ylw (bs s) w):=by
 have M:=Hd (Xkv s w hs)
 unfold maxLen at hs
 by_cases h0:s.size=0
 ·obtain rfl:=Xeh h0
  clear h0 hs M
  go_enter func186,ntmps186
  go_wp2_with fail
  go_ret3
  exact⟨0,1,rfl,(fun h=>absurd rfl h),(fun _=>by decide),Dr.refl _⟩
 ·have n0:=Xd2 h0
  go_enter func186,ntmps186
  go_wp2_with fail
  refine M.o.mono ?_
  rintro e w1 ⟨n,rfl,hn,hn4,hw,hd⟩
  rw[Xaa] at hn
  cases hb:Xb7 (bs s)
  ·have hr:=Xkl hb
   have HR:=Hd hr
   clear hw hr hb M
   by_cases z:n=0
   ·have z1:((n:Int)==0)=true:=Xa4 (by omega)
    go_wp2_with fail
    go_ret3
    exact⟨0,6,by rw[HR.o];rfl,(fun h=>absurd HR.o h),(fun _=>by decide),hd⟩
   ·have z1:((n:Int)==0)=false:=Xaj (by omega)
    by_cases y:n=s.size
    ·have y1:((n:Int)==(s.size:Int))=true:=Xa4 (by omega)
     go_wp2_with fail
     go_ret3
     exact⟨0,23,by rw[HR.o];rfl,(fun h=>absurd HR.o h),(fun _=>by decide),hd⟩
    ·have y1:((n:Int)==(s.size:Int))=false:=Xaj (by omega)
     go_wp2_with fail
     go_ret3
     exact⟨0,3,by rw[HR.o];rfl,(fun h=>absurd HR.o h),(fun _=>by decide),hd⟩
  ·obtain rfl:=hw hb
   have hp:=(Xfr hb).2
   have CP:=Hd (Yim (bs s) (by omega))
   obtain⟨n,hn'⟩:=xq (rn (bs s))
   rw[←hn'] at hn hn4 hp CP⊢
   have SZ:(s.extract 0 n).size=n:=by rw[ByteArray.size_extract];omega
   have U:Hid (∀w,Rx 238 #[.string (s.extract 0 n)] w (.int .i32 ((cpt (bs s):Nat):Int))):=Hd (fun w=>(Xxo (s.extract 0 n) w (by omega) (by omega)).mono fun e w' h=>⟨by rw[h.1,CP.o,Yiu,SZ],h.2⟩)
   have HN:=Hd hn'
   clear hw hb M hn' SZ CP
   go_wp2_with (go_at_call 238;refine(U.o _).mono ?_;rintro e w' ⟨rfl,rfl⟩)
   go_ret3
   exact⟨_,0,by rw[HN.o];rfl,(fun _=>⟨rfl,rfl⟩),(fun h=>by rw[HN.o] at hp;omega),hd⟩
theorem Ycm (w:World)(n:Nat):Rx 138 #[.int .i32 (n:Int)] w (.bool (Xuw n)):=by
 obtain⟨b,hb⟩:=xq (Xuw n)
 rw[←hb]
 have HB:=Hd hb
 clear hb
 rcases(by omega:n<32∨(32≤n∧n<127)∨(127≤n∧n≤159)∨(n=8232)∨(n=8233)∨(159<n∧n≠8232∧n≠8233)) with h|⟨h,h2⟩|⟨h,h2⟩|rfl|rfl|⟨h,h2,h3⟩
 all_goals
  try have q1:((n:Int)==8232)=false:=Xaj (by omega)
  try have q2:((n:Int)==8233)=false:=Xaj (by omega)
  go_enter func138,ntmps138
  go_wp2_with fail
  go_ret
  exact⟨Xa0 (by rw[HB.o,Bool.eq_iff_iff];simp[Xuw];try omega),rfl⟩
def KeepB (B:Nat)(A C:World):Prop:=C.heap[B]?=A.heap[B]?
theorem KeepB.cell {B:Nat}{A C:World}(h:KeepB B A C):C.cell? ⟨B,0,none⟩=A.cell? ⟨B,0,none⟩:=by
 unfold World.cell?;simp only;rw[show C.heap[B]?=A.heap[B]? from h]
def rnV (x:Nat×Nat):Array Value:=#[.int .i64 (x.1:Int),.int .i32 (x.2:Int)]
theorem Xlb (w:World)(q:Nat):w.grownBy (w.drewN q) none:=⟨rfl,rfl,rfl,zL _,fun _ _ _=>rfl⟩
theorem Yg9 (n:Nat)(hn:1≤n)(l Bs B:Nat)(s:ByteArray)(hs:s.size≤maxLen)(J Jx:List (Nat×Nat)→World→Prop)(hJa:AbidesFrom B J)
    (hY:∀pre x W,J pre W→pre.length<s.size+1→YieldAt Fence.wide (n-1) prog l (rnV x) W fun e W'=>
     (e=.returned (.bool true)∧J (pre++[x]) W'∧KeepB Bs W W')∨(e=.returned (.bool false)∧Jx (pre++[x]) W'))
    (W:World) (hBs:W.cell? ⟨Bs,0,none⟩=some (.string s)) (h0:J [] W):
    CallsIn Fence.wide n prog 185 #[.func (.yield l) #[] #[],.pointer (some ⟨Bs,0,none⟩)] W fun e W'=>(∃v,e=.returned v)∧
     ((∃ys:List (Nat×Nat),ys=rns (bs s)∧J ys W')∨(∃pre:List (Nat×Nat),(∃q,pre++q=rns (bs s))∧Jx pre W')):=by
 unfold maxLen at hs
 refine callsIn_of_wp func185 rfl trivial ?_ rfl
 simp only[ntmps185,List.size_toArray,List.length_cons,List.length_nil,Nat.reduceAdd,Nat.reduceSub,Array.replicate_succ,Array.replicate_zero,List.push_toArray,List.append_toArray,List.nil_append,List.cons_append]
 gi_wp2
 gi_loopw [3] (fun i wr=>∃(k:Nat) (pre:List (Nat×Nat)),k≤s.size∧i=.int .i64 (k:Int)∧Hid (rns (bs s)=pre++rsN ((bs s).drop k).length k ((bs s).drop k))∧pre.length≤k∧wr.cell? ⟨Bs,0,none⟩=some (.string s)∧J pre wr)
  (fun i wr=>s.size-(intOf i).toNat)
 case atStart=>
  exact⟨0,[],by omega,rfl,rfl,Nat.zero_le _,hBs,h0⟩
 case round=>
  obtain⟨k,pre,hk,rfl,hpre,hpl,hc,hJ⟩:=hrel
  by_cases h1:k<s.size
  ·have hsz:(s.extract k s.size).size=s.size-k:=by rw[ByteArray.size_extract];omega
   have D:=Hd (Xxs (s.extract k s.size) wr (by rw[hsz];unfold maxLen;omega))
   have hl:=(Xrf ((bs s).drop k)).1
   rw[List.length_drop,Xaa] at hl
   clear hsz
   gi_wp2_with fail
   refine⟨trivial,?_⟩
   refine(callsIn_wide.2 D.o).mono ?_
   rintro e w1 ⟨r,er,rfl,h2,h3,hd1⟩
   rw[Xom] at h2 h3⊢
   have J1:J pre w1:=by obtain⟨q,rfl⟩:=hd1;exact hJa _ _ _ _ hJ (Xlb _ _) (fun r e=>by cases e)
   have C1:w1.cell? ⟨Bs,0,none⟩=some (.string s):=by obtain⟨q,rfl⟩:=hd1;exact hc
   obtain⟨m,hm⟩:=xq (rn ((bs s).drop k))
   obtain⟨c,hcp⟩:=xq (cpt ((bs s).drop k))
   rw[←hm] at hl h2 h3⊢
   rw[←hcp] at h2
   clear hJ hc D hd1
   by_cases z:m=0
   ·have q:=h3 z
    have q1:(er !=0)=true:=Xam q
    have ST:Hid (rns (bs s)=pre):=Hd (by rw[hpre.o,Xns _ _ _ (by rw[←hm];exact z),List.append_nil])
    clear hm hcp h2 h3
    gi_wp2
    refine⟨fun _ h=>(by cases h),?_⟩
    gi_wp2
    refine zP (results_none rfl _ _ _) rfl ?_
    exact⟨⟨_,rfl⟩,.inl ⟨pre,ST.o.symm,J1⟩⟩
   ·obtain⟨rfl,rfl⟩:=h2 z
    have ST:Hid (rns (bs s)=(pre++[(k,c)])++rsN ((bs s).drop (k+m)).length (k+m) ((bs s).drop (k+m))):=Hd (by
     rw[hpre.o,Xnt _ _ _ (by rw[←hm];exact z) (zL _),←hm,←hcp,List.drop_drop];simp)
    clear hm hcp h2 h3
    obtain⟨fn,tmps,assign,body,hy,hR⟩:=hY pre (k,c) w1 J1 (by omega)
    unfold rnV at hy
    dsimp only at hy
    gi_wp2
    refine hR.mono ?_
    rintro e W3 (⟨rfl,hJ3,hk3⟩|⟨rfl,hJx3⟩)
    ·have hc3:W3.cell? ⟨Bs,0,none⟩=some (.string s):=hk3.cell.trans C1
     gi_wp2
     go_roundw
     case rel=>exact⟨k+m,pre++[(k,c)],by omega,by go_num,ST,by simp;omega,hc3,hJ3⟩
     case measure=>simp[intOf];omega
    ·gi_wp2
     refine zP (results_none rfl _ _ _) rfl ?_
     exact⟨⟨_,rfl⟩,.inr ⟨_,⟨_,ST.o.symm⟩,hJx3⟩⟩
  ·obtain rfl:k=s.size:=by omega
   have ST:Hid (rns (bs s)=pre):=Hd (by rw[hpre.o,List.drop_of_length_le (by rw[Xaa];exact zL _)];simp[rsN])
   gi_wp2
   go_end0
   exact⟨⟨_,rfl⟩,.inl ⟨pre,ST.o.symm,hJ⟩⟩
end Go.Proofs.YtjolcnopipbkhaaGreatDoor
/- The checker of a content: an error in a box. -/
namespace Go.Proofs.YtjolcnopipbkhaaGreatDoor
open Go.Proofs.Tryz
open Go.RowKit Go.Maps
set_option linter.unusedVariables false
set_option maxHeartbeats 100000000
set_option maxRecDepth 100000
def Ck (w:World)(b n:Nat):Prop:=w.heap[b]?=some (.cells #[.int .i64 (n:Int)] 73 (0,0))
structure Fr1 (b:Nat) (w w':World):Prop where
 os:w'.os=w.os
 tape:w'.tape=w.tape
 output:w'.output=w.output
 size:w.heap.size≤w'.heap.size
 other:∀k,k<w.heap.size→k≠b→w'.heap[k]?=w.heap[k]?
theorem Fr1.refl (b:Nat)(w:World):Fr1 b w w:=⟨rfl,rfl,rfl,zL _,fun _ _ _=>rfl⟩
theorem Fr1.of_below {b:Nat}{w w':World}(h:Bw w w'):Fr1 b w w':=⟨h.os,h.tape,h.output,h.size,fun k hk _=>h.block k hk⟩
theorem Fr1.trans {b:Nat}{u v w:World}(h:Fr1 b u v)(h':Fr1 b v w):Fr1 b u w:=
 ⟨h'.os.trans h.os,h'.tape.trans h.tape,h'.output.trans h.output,Nat.le_trans h.size h'.size,fun k hk hne=>(h'.other k (Nat.lt_of_lt_of_le hk h.size) hne).trans (h.other k hk hne)⟩
theorem Fr1.below {b B:Nat}{w w':World}(h:Fr1 b w w')(hB:B≤w.heap.size)(hb:B≤b):Below B w w':=
 ⟨h.os,h.tape,h.output,h.size,fun k hk=>h.other k (Nat.lt_of_lt_of_le hk hB) (by omega)⟩
theorem Fr1.set {b n:Nat}{w:World}(h:Ck w b n)(u:Value):Fr1 b w (w.setCell ⟨b,0,none⟩ u):=
 ⟨rfl,rfl,rfl,by simp[World.setCell],fun k _ hne=>Below.heap_setCell _ _ _ _ hne⟩
theorem Ck.lt {w:World}{b n:Nat}(h:Ck w b n):b<w.heap.size:=zY h
theorem Ck.below {w w':World}{b n:Nat}(h:Ck w b n)(hb:Bw w w'):Ck w' b n:=(hb.block b h.lt).trans h
theorem Ck.cell {w:World}{b n:Nat}(h:Ck w b n):w.cell? ⟨b,0,none⟩=some (.int .i64 (n:Int)):=cell_of_row w b 0 _ _ _ h
theorem Ck.free {w:World}{b n:Nat}(h:Ck w b n):w.frozen? ⟨b,0,none⟩=false:=by unfold Ck at h;simp[World.frozen?,h]
theorem Ck.set {w:World}{b n:Nat}(h:Ck w b n)(m:Nat):Ck (w.setCell ⟨b,0,none⟩ (.int .i64 (m:Int))) b m:=
 Xd8 h 0 _
def Xb6 (w:World)(b n:Nat)(e:Ending)(w':World):Prop:=(∃v,e=.returned v)∧Ck w' b n∧Fr1 b w w'
theorem Xbq (w:World)(b n:Nat)(h:Ck w b n)(bad:Bool)(e:Nat):
    Calls prog 44 #[.pointer (some ⟨b,0,none⟩),.bool bad,.int .i64 (e:Int)] w (Xb6 w b (fe n (eIf bad e))):=by
 have hc:=h.cell
 have hf:=h.free
 have H:=Hd h
 clear h
 by_cases h0:n=0
 ·subst h0
  cases bad
  ·go_enter func44,ntmps44
   go_wp2_with fail
   go_end0
   exact⟨⟨_,rfl⟩,H.o,Fr1.refl _ _⟩
  ·go_enter func44,ntmps44
   go_wp2_with fail
   go_end0
   exact⟨⟨_,rfl⟩,H.o.set e,Fr1.set H.o _⟩
 ·have hz:((n:Int)==0)=false:=Xaj (by omega)
  have HE:Hid (fe n (eIf bad e)=n):=Hd (by unfold fe;rw[qP h0])
  clear h0
  go_enter func44,ntmps44
  go_wp2_with fail
  go_end0
  exact⟨⟨_,rfl⟩,by rw[HE.o];exact H.o,Fr1.refl _ _⟩
theorem Xdw (w:World)(b n:Nat)(h:Ck w b n)(e:Nat):
    Calls prog 33 #[.pointer (some ⟨b,0,none⟩),.int .i64 (e:Int)] w (Xb6 w b (fe n e)):=by
 have W:=Hd (Xbq w b n h true e)
 clear h
 go_enter func33,ntmps33
 go_wp2_with fail
 refine W.o.mono ?_
 rintro e w' ⟨⟨v,rfl⟩,h1,h2⟩
 have H1:=Hd h1;have H2:=Hd h2
 clear h1 h2 W
 go_wp2_with fail
 go_end0
 exact⟨⟨_,rfl⟩,H1.o,H2.o⟩
theorem Yj3:∀m:Nat,m<32→1≤m→bits .and .u64 (IntKind.u64.wrap (-(m:Int))) 31=((32-m:Nat):Int):=by decide+kernel
theorem Yj2:∀m:Nat,m<32→1≤m→IntKind.u64.wrap (32-((32-m:Nat):Int))=(m:Int):=by decide+kernel
theorem Xa7 {x m:Nat}(hx:x<4294967296):rot x m<4294967296:=by
 unfold rot Xdx
 exact Nat.or_lt_two_pow (n:=32) (by omega) (Nat.lt_of_le_of_lt (Nat.div_le_self _ _) (by omega))
theorem Yc4 (w:World)(x m:Nat)(hx:x<4294967296)(hm:1≤m)(hm2:m<32):Rx 236 #[.int .u32 (x:Int),.int .i64 (-(m:Int))] w (.int .u32 ((rot x m:Nat):Int)):=by
 have e:=Yj3 m hm2 hm
 have e2:=Yj2 m hm2 hm
 obtain⟨r,hr⟩:=xq (32-m)
 rw[←hr] at e e2
 have hr2:r≤31:=by omega
 have HR:=Hd hr
 clear hr
 go_enter func236,ntmps236
 go_wp2_with fail
 go_ret
 refine⟨?_,rfl⟩
 have e1:((x:Int)*2^r%4294967296)=((x*2^r%4294967296:Nat):Int):=by rw[Int.natCast_emod,Int.natCast_mul,Int.natCast_pow];rfl
 have e3:((x:Int)/2^m)=((x/2^m:Nat):Int):=by rw[Int.natCast_ediv,Int.natCast_pow];rfl
 rw[e1,e3,u32_or_nat _ _ (by omega) (Nat.lt_of_le_of_lt (Nat.div_le_self _ _) hx),HR.o]
 rfl
theorem Xij (w:World)(x:Nat)(hx:x<4294967296)(m:Nat)(hm:1≤m)(hm2:m<32)(k:Int)(hk:k=(m:Int)):Rx 182 #[.int .u32 (x:Int),.int .i64 k] w (.int .u32 ((rot x m:Nat):Int)):=by
 subst hk
 have R:=Hd (Yc4 w x m hx hm hm2)
 have hm3:(m:Int)<32:=by omega
 go_enter func182,ntmps182
 go_wp2_with fail
 refine R.o.mono ?_
 rintro e w' ⟨rfl,rfl⟩
 clear R
 go_wp2_with fail
 go_ret
 exact⟨rfl,rfl⟩
def wC (v:W8):Array Value:=#[.int .u32 (v.a:Int),.int .u32 (v.b:Int),.int .u32 (v.c:Int),.int .u32 (v.d:Int),.int .u32 (v.e:Int),.int .u32 (v.f:Int),.int .u32 (v.g:Int),.int .u32 (v.i:Int)]
def wZ:Array Value:=#[.int .u32 0,.int .u32 0,.int .u32 0,.int .u32 0,.int .u32 0,.int .u32 0,.int .u32 0,.int .u32 0]
structure W8.Ok (v:W8):Prop where
 a:v.a<4294967296
 b:v.b<4294967296
 c:v.c<4294967296
 d:v.d<4294967296
 e:v.e<4294967296
 f:v.f<4294967296
 g:v.g<4294967296
 i:v.i<4294967296
theorem Xdc:(prog.info? 191).map (·.size)=some 8:=by kernel_rfl
theorem Yec (w:World):zJ 132 #[] w (.agg (wC sh0)):=by
 go_enter func132,ntmps132
 go_wp2_with fail
 exact zP (v:=.agg (wC sh0)) (by simp[results,results132,go_sem];rfl) rfl ⟨rfl,(zR _ _).alloc (zL _) _⟩
theorem Ync {w:World}{b T:Nat}(h:w.heap[b]?=some (.cells wZ T (0,0)))(u0 u1 u2 u3 u4 u5 u6 u7:Value):((((((((w.setCell ⟨b,0,none⟩ u0).setCell ⟨b,1,none⟩ u1).setCell ⟨b,2,none⟩ u2).setCell ⟨b,3,none⟩ u3).setCell ⟨b,4,none⟩ u4).setCell ⟨b,5,none⟩ u5).setCell ⟨b,6,none⟩ u6).setCell ⟨b,7,none⟩ u7).heap[b]?=some (.cells #[u0,u1,u2,u3,u4,u5,u6,u7] T (0,0)):=by
 have h0:=Xd8 h 0 u0
 have h1:=Xd8 h0 1 u1
 have h2:=Xd8 h1 2 u2
 have h3:=Xd8 h2 3 u3
 have h4:=Xd8 h3 4 u4
 have h5:=Xd8 h4 5 u5
 have h6:=Xd8 h5 6 u6
 have h7:=Xd8 h6 7 u7
 simpa [wZ] using h7
theorem Xm8 {B b:Nat}{w0 w:World}(h:Below B w0 w)(hb:B≤b)(u0 u1 u2 u3 u4 u5 u6 u7:Value):Below B w0 ((((((((w.setCell ⟨b,0,none⟩ u0).setCell ⟨b,1,none⟩ u1).setCell ⟨b,2,none⟩ u2).setCell ⟨b,3,none⟩ u3).setCell ⟨b,4,none⟩ u4).setCell ⟨b,5,none⟩ u5).setCell ⟨b,6,none⟩ u6).setCell ⟨b,7,none⟩ u7):=((((((((h.setCell hb _).setCell hb _).setCell hb _).setCell hb _).setCell hb _).setCell hb _).setCell hb _).setCell hb _)
theorem Xxt (x:Nat)(hx:x<4294967296):bits .xor .u32 (if IntKind.u32.signed=true then -1 else IntKind.u32.max) (x:Int)=((Xrt x:Nat):Int):=by
 show IntKind.u32.wrap ((BitVec.ofInt 32 4294967295^^^BitVec.ofInt 32 (x:Int)).toNat:Int)=_
 rw[show BitVec.ofInt 32 4294967295=BitVec.allOnes 32 by decide,BitVec.allOnes_xor,BitVec.toNat_not,ofInt_u32 x hx,IntKind.wrap_u32']
 unfold Xrt
 omega
theorem Xdi (a b:Nat):((Xa9 a b:Nat):Int)=((a:Int)+(b:Int))%4294967296:=by unfold Xa9;omega
theorem Xfh {a b:Nat}(h:a<4294967296):a&&&b<4294967296:=Nat.lt_of_le_of_lt Nat.and_le_left h
theorem Xda {a b:Nat}(h:a<4294967296)(h2:b<4294967296):a^^^b<4294967296:=Nat.xor_lt_two_pow (n:=32) h h2
theorem not_lt (a:Nat):Xrt a<4294967296:=by unfold Xrt;omega
theorem Xc3 (a b:Nat):Xa9 a b<4294967296:=Nat.mod_lt _ (by omega)
theorem Yfz {v:W8}(hv:v.Ok)(k t:Nat):(rnd v k t).Ok:=⟨Xc3 _ _,hv.a,hv.b,hv.c,Xc3 _ _,hv.e,hv.f,hv.g⟩
theorem Xy2 (x y:W8):(Xg7 x y).Ok:=⟨Xc3 _ _,Xc3 _ _,Xc3 _ _,Xc3 _ _,Xc3 _ _,Xc3 _ _,Xc3 _ _,Xc3 _ _⟩
theorem Xtu:sh0.Ok:=⟨by decide,by decide,by decide,by decide,by decide,by decide,by decide,by decide⟩
theorem Ynj {v:W8}(hv:v.Ok)(k t s1:Nat)(hs:s1=rot v.e 6^^^rot v.e 11^^^rot v.e 25):
    (((v.i:Int)+(s1:Int)+bits .xor .u32 (bits .and .u32 (v.e:Int) (v.f:Int)) (bits .and .u32 (bits .xor .u32 (if IntKind.u32.signed=true then -1 else IntKind.u32.max) (v.e:Int)) (v.g:Int))+(k:Int))%4294967296+(t:Int))%4294967296=((Yc5 v k t:Nat):Int):=by
 unfold Yc5
 rw[Xdi,Xdi,Xdi,Xdi,←hs,Xxt _ hv.e,u32_and_nat _ _ hv.e hv.f,u32_and_nat _ _ (not_lt _) hv.g,u32_xor_nat _ _ (Xfh hv.e) (Xfh (not_lt _))]
 generalize (((v.e&&&v.f^^^Xrt v.e&&&v.g:Nat)):Int)=X
 omega
theorem Yni {v:W8}(hv:v.Ok)(s0:Nat)(hs:s0=rot v.a 2^^^rot v.a 13^^^rot v.a 22):
    ((s0:Int)+bits .xor .u32 (bits .xor .u32 (bits .and .u32 (v.a:Int) (v.b:Int)) (bits .and .u32 (v.a:Int) (v.c:Int))) (bits .and .u32 (v.b:Int) (v.c:Int)))%4294967296=((Yf0 v:Nat):Int):=by
 unfold Yf0
 rw[Xdi,←hs,u32_and_nat _ _ hv.a hv.b,u32_and_nat _ _ hv.a hv.c,u32_and_nat _ _ hv.b hv.c,u32_xor_nat _ _ (Xfh hv.a) (Xfh hv.a),u32_xor_nat _ _ (Xda (Xfh hv.a) (Xfh hv.a)) (Xfh hv.b)]
theorem Xpf (w:World)(v:W8)(k t:Nat)(hv:v.Ok)(hk:k<4294967296)(ht:t<4294967296):
    zJ 183 #[.agg (wC v),.int .u32 (k:Int),.int .u32 (t:Int)] w (.agg (wC (rnd v k t))):=by
 have ra:=fun(m:Nat) (hm:1≤m) (hm2:m<32) (k:Int) (hk:k=(m:Int)) (w:World)=>(Xij w v.a hv.a m hm hm2 k hk).mono (fun _ _ h=>(⟨h.1,h.2.symm⟩:_∧_))
 have re:=fun(m:Nat) (hm:1≤m) (hm2:m<32) (k:Int) (hk:k=(m:Int)) (w:World)=>(Xij w v.e hv.e m hm hm2 k hk).mono (fun _ _ h=>(⟨h.1,h.2.symm⟩:_∧_))
 have R1:=Hd (ra 2 (by decide) (by decide) 2 rfl)
 have R2:=Hd (ra 13 (by decide) (by decide) 13 rfl)
 have R3:=Hd (ra 22 (by decide) (by decide) 22 rfl)
 have R4:=Hd (re 6 (by decide) (by decide) 6 rfl)
 have R5:=Hd (re 11 (by decide) (by decide) 11 rfl)
 have R6:=Hd (re 25 (by decide) (by decide) 25 rfl)
 have HV:=Hd hv
 obtain⟨s0,hs0⟩:=xq (rot v.a 2^^^rot v.a 13^^^rot v.a 22)
 obtain⟨s1,hs1⟩:=xq (rot v.e 6^^^rot v.e 11^^^rot v.e 25)
 have l0:s0<4294967296:=by rw[hs0];exact Nat.xor_lt_two_pow (n:=32) (Nat.xor_lt_two_pow (n:=32) (Xa7 hv.a) (Xa7 hv.a)) (Xa7 hv.a)
 have l1:s1<4294967296:=by rw[hs1];exact Nat.xor_lt_two_pow (n:=32) (Nat.xor_lt_two_pow (n:=32) (Xa7 hv.e) (Xa7 hv.e)) (Xa7 hv.e)
 have X0:Hid (bits .xor .u32 (bits .xor .u32 ((rot v.a 2:Nat):Int) ((rot v.a 13:Nat):Int)) ((rot v.a 22:Nat):Int)=(s0:Int)):=Hd (by
  rw[u32_xor_nat _ _ (Xa7 hv.a) (Xa7 hv.a),u32_xor_nat _ _ (Nat.xor_lt_two_pow (n:=32) (Xa7 hv.a) (Xa7 hv.a)) (Xa7 hv.a),hs0])
 have X1:Hid (bits .xor .u32 (bits .xor .u32 ((rot v.e 6:Nat):Int) ((rot v.e 11:Nat):Int)) ((rot v.e 25:Nat):Int)=(s1:Int)):=Hd (by
  rw[u32_xor_nat _ _ (Xa7 hv.e) (Xa7 hv.e),u32_xor_nat _ _ (Nat.xor_lt_two_pow (n:=32) (Xa7 hv.e) (Xa7 hv.e)) (Xa7 hv.e),hs1])
 have HS0:=Hd hs0
 have HS1:=Hd hs1
 clear ra re hv hs0 hs1
 unfold wC
 go_enter func183,ntmps183
 go_wp2_with fail
 go_quiet ((go_at_call 182;first|with_reducible exact Calls.quiet_of_same (R1.o _)|with_reducible exact Calls.quiet_of_same (R2.o _)|with_reducible exact Calls.quiet_of_same (R3.o _)))
 rw[X0.o]
 clear R1 R2 R3 X0
 obtain⟨w0,hw0⟩:=xq (((w.alloc (.cells (wC v) 191)).alloc (.cells wZ 191)).drewN nq)
 have b0:w0.heap[w.heap.size]?=some (.cells (wC v) 191 (0,0)):=by
  rw[hw0];exact(((zR _ (w.alloc (.cells (wC v) 191))).alloc (zL _) (.cells wZ 191)).block w.heap.size (by simp)).trans (zN w _)
 have b1:w0.heap[w.heap.size+1]?=some (.cells wZ 191 (0,0)):=by
  rw[hw0];have:=zN (w.alloc (.cells (wC v) 191)) (.cells wZ 191);rw[World.size_alloc] at this;exact this
 have BW:Hid (Bw w w0):=Hd (by
  rw[hw0];exact(((zR _ _).alloc (zL _) _).alloc (by simp) _).trans ((Dr.below ⟨nq,rfl⟩).mono (by simp;omega)))
 have hw0':=hw0
 unfold wC wZ at hw0'
 rw[←hw0']
 have c0:w0.cell? ⟨w.heap.size,0,none⟩=some (.int .u32 (v.a:Int)):=cell_of_row w0 _ 0 _ _ _ b0
 have c1:w0.cell? ⟨w.heap.size,1,none⟩=some (.int .u32 (v.b:Int)):=cell_of_row w0 _ 1 _ _ _ b0
 have c2:w0.cell? ⟨w.heap.size,2,none⟩=some (.int .u32 (v.c:Int)):=cell_of_row w0 _ 2 _ _ _ b0
 have c3:w0.cell? ⟨w.heap.size,3,none⟩=some (.int .u32 (v.d:Int)):=cell_of_row w0 _ 3 _ _ _ b0
 have c4:w0.cell? ⟨w.heap.size,4,none⟩=some (.int .u32 (v.e:Int)):=cell_of_row w0 _ 4 _ _ _ b0
 have c5:w0.cell? ⟨w.heap.size,5,none⟩=some (.int .u32 (v.f:Int)):=cell_of_row w0 _ 5 _ _ _ b0
 have c6:w0.cell? ⟨w.heap.size,6,none⟩=some (.int .u32 (v.g:Int)):=cell_of_row w0 _ 6 _ _ _ b0
 have c7:w0.cell? ⟨w.heap.size,7,none⟩=some (.int .u32 (v.i:Int)):=cell_of_row w0 _ 7 _ _ _ b0
 have d0:w0.cell? ⟨w.heap.size+1,0,none⟩=some (.int .u32 0):=cell_of_row w0 _ 0 _ _ _ b1
 have e0:w0.frozen? ⟨w.heap.size+1,0,none⟩=false:=Xdn b1 0
 have d1:w0.cell? ⟨w.heap.size+1,1,none⟩=some (.int .u32 0):=cell_of_row w0 _ 1 _ _ _ b1
 have e1:w0.frozen? ⟨w.heap.size+1,1,none⟩=false:=Xdn b1 1
 have d2:w0.cell? ⟨w.heap.size+1,2,none⟩=some (.int .u32 0):=cell_of_row w0 _ 2 _ _ _ b1
 have e2:w0.frozen? ⟨w.heap.size+1,2,none⟩=false:=Xdn b1 2
 have d3:w0.cell? ⟨w.heap.size+1,3,none⟩=some (.int .u32 0):=cell_of_row w0 _ 3 _ _ _ b1
 have e3:w0.frozen? ⟨w.heap.size+1,3,none⟩=false:=Xdn b1 3
 have d4:w0.cell? ⟨w.heap.size+1,4,none⟩=some (.int .u32 0):=cell_of_row w0 _ 4 _ _ _ b1
 have e4:w0.frozen? ⟨w.heap.size+1,4,none⟩=false:=Xdn b1 4
 have d5:w0.cell? ⟨w.heap.size+1,5,none⟩=some (.int .u32 0):=cell_of_row w0 _ 5 _ _ _ b1
 have e5:w0.frozen? ⟨w.heap.size+1,5,none⟩=false:=Xdn b1 5
 have d6:w0.cell? ⟨w.heap.size+1,6,none⟩=some (.int .u32 0):=cell_of_row w0 _ 6 _ _ _ b1
 have e6:w0.frozen? ⟨w.heap.size+1,6,none⟩=false:=Xdn b1 6
 have d7:w0.cell? ⟨w.heap.size+1,7,none⟩=some (.int .u32 0):=cell_of_row w0 _ 7 _ _ _ b1
 have e7:w0.frozen? ⟨w.heap.size+1,7,none⟩=false:=Xdn b1 7
 have B1:Hid (w0.heap[w.heap.size+1]?=some (.cells wZ 191 (0,0))):=Hd b1
 clear hw0 hw0' b0 b1
 go_wp2_with fail
 go_quiet ((go_at_call 182;first|with_reducible exact Calls.quiet_of_same (R4.o _)|with_reducible exact Calls.quiet_of_same (R5.o _)|with_reducible exact Calls.quiet_of_same (R6.o _)))
 rw[X1.o]
 clear R4 R5 R6 X1
 have T:=Hd (Ynj HV.o k t s1 HS1.o)
 have U:=Hd (Yni HV.o s0 HS0.o)
 have RES:Hid (#[Value.int .u32 (((Yc5 v k t:Nat):Int)+((Yf0 v:Nat):Int)),Value.int .u32 (v.a:Int)]=#[Value.int .u32 (((Yc5 v k t:Nat):Int)+((Yf0 v:Nat):Int)),Value.int .u32 (v.a:Int)]):=Hd rfl
 go_upto_region 5 with fail
 rw[T.o,U.o]
 obtain⟨tt,htt⟩:=xq (Yc5 v k t)
 obtain⟨uu,huu⟩:=xq (Yf0 v)
 have R:Hid (wC (rnd v k t)=#[.int .u32 (((tt:Int)+(uu:Int))%4294967296),.int .u32 (v.a:Int),.int .u32 (v.b:Int),.int .u32 (v.c:Int),.int .u32 (((v.d:Int)+(tt:Int))%4294967296),.int .u32 (v.e:Int),.int .u32 (v.f:Int),.int .u32 (v.g:Int)]):=Hd (by unfold wC rnd;simp only[Xdi];rw[htt,huu])
 rw[←htt,←huu]
 clear T U RES htt huu HS0 HS1
 go_wp2_with fail
 exact zP (results_cell_row results183 _ _ (w.heap.size+1) _ _ _ _ rfl (Ync (w:=w0.drewN nq) B1.o _ _ _ _ _ _ _ _) underlying191 rfl Xdc) rfl ⟨(by have:=R.o;unfold wC at this;rw[this]),Xm8 (BW.o.trans ((Dr.below ⟨nq,rfl⟩).mono BW.o.size)) (Nat.le_succ _) _ _ _ _ _ _ _ _⟩
def wA (ws:List Nat):Array Value:=(ws.map fun x=>Value.int .u32 ((x:Nat):Int)).toArray
theorem Xb4 (ws:List Nat):(wA ws).size=ws.length:=by simp[wA]
theorem Yjq (ws:List Nat)(q x:Nat):(wA ws).setIfInBounds q (.int .u32 ((x:Nat):Int))=wA (ws.set q x):=by simp[wA,List.map_set]
theorem Xo2 (ws:List Nat):(wA ws).all (·.oneCell')=true:=by
 rw[Array.all_eq_true']
 intro x hx
 unfold wA at hx
 rw[List.mem_toArray,List.mem_map] at hx
 obtain⟨y,_,rfl⟩:=hx
 rfl
structure L16 (ws:List Nat):Prop where
 len:ws.length=16
 lt:∀x∈ws,x<4294967296
theorem L16.at {ws:List Nat}(h:L16 ws)(q:Nat):ws.getD q 0<4294967296:=by
 by_cases hq:q<ws.length
 ·rw[List.getD_eq_getElem?_getD,List.getElem?_eq_getElem hq,Option.getD_some];exact h.lt _ (zG hq)
 ·rw[List.getD_eq_getElem?_getD,List.getElem?_eq_none (by omega)];decide
theorem L16.set {ws:List Nat}(h:L16 ws)(q:Nat){x:Nat}(hx:x<4294967296):L16 (ws.set q x):=⟨by simp[h.len],fun y hy=>by
 rcases List.mem_or_eq_of_mem_set hy with hy|rfl
 ·exact h.lt _ hy
 ·exact hx⟩
theorem Ymj:L16 (List.replicate 16 0):=⟨by simp,fun x hx=>by rw[List.mem_replicate] at hx;omega⟩
def WB (w:World)(b:Nat)(T:TypeId)(ws:List Nat):Prop:=w.heap[b]?=some (.cells (wA ws) T (0,0))
theorem WB.lt {w:World}{b:Nat}{T:TypeId}{ws:List Nat}(h:WB w b T ws):b<w.heap.size:=zY h
theorem WB.cell {w:World}{b:Nat}{T:TypeId}{ws:List Nat}(h:WB w b T ws){q:Nat}(hq:q<ws.length):w.cell? ⟨b,q,none⟩=some (.int .u32 ((ws.getD q 0:Nat):Int)):=by
 rw[cell_of_row w b q _ _ _ h]
 simp[wA,List.getD,hq]
theorem WB.set {w:World}{b:Nat}{T:TypeId}{ws:List Nat}(h:WB w b T ws)(q x:Nat):WB (w.setCell ⟨b,q,none⟩ (.int .u32 ((x:Nat):Int))) b T (ws.set q x):=by
 have:=Xd8 h q (.int .u32 ((x:Nat):Int))
 rw[Yjq] at this
 exact this
theorem WB.below {w w':World}{b:Nat}{T:TypeId}{ws:List Nat}(h:WB w b T ws)(hb:Bw w w'):WB w' b T ws:=(hb.block b h.lt).trans h
theorem Xnj:(prog.info? 196).map (·.size)=some 16:=by kernel_rfl
theorem Xtp:(prog.info? 184).map (·.size)=some 64:=by kernel_rfl
theorem WB.load {w:World}{b:Nat}{ws:List Nat}(h:WB w b 196 ws)(hl:L16 ws):Ld 196 ⟨b,0,none⟩ w (.agg (wA ws)):=
 run_loadVar_row w b _ 196 _ _ _ h underlying196 rfl (by rw[Xb4,hl.len];exact Xnj)
theorem Yh8 {l:List Nat}(hl:l.length=64)(j:Nat)(hj:j<64)(c:Nat)(hc:c=l.getD j 0)(w:World):(Instr.index 184 (.agg (idA l)) (.int .i64 (j:Int))).run prog w=.ok (.int .u8 (c:Int)) w:=by
 have hi:(0:Int)≤(j:Int)∧(j:Int)<64:=by omega
 have hjl:j<l.length:=by omega
 have e:(idA l)[j]?=some (U c):=by
  rw[hc];unfold idA
  simp[List.getD,hjl]
 simp[Instr.index,run_underlying underlying184,asIntOf,hi,go_sem]
 rw[qP hj,e]
 rfl
theorem Xzk {b ws:List Nat}(hb:∀x∈b,x<256)(h:L16 ws)(i:Nat):L16 (Xp1 b ws i):=by
 refine h.set _ ?_
 have h1:Xdx (ws.getD (i/4) 0) 8<2^32:=Nat.mod_lt _ (by decide)
 have h2:b.getD i 0<2^32:=by
  by_cases hq:i<b.length
  ·rw[List.getD_eq_getElem?_getD,List.getElem?_eq_getElem hq,Option.getD_some];have:=hb _ (zG hq);omega
  ·rw[List.getD_eq_getElem?_getD,List.getElem?_eq_none (by omega)];decide
 exact Nat.or_lt_two_pow h1 h2
theorem Xzl {b:List Nat}(hb:∀x∈b,x<256)(n:Nat):L16 (Xxf b n):=by
 induction n with
 |zero=>exact Ymj
 |succ n ih=>rw[Xk0];exact Xzk hb ih n
structure B64 (l:List Nat):Prop where
 len:l.length=64
 lt:∀x∈l,x<256
theorem Yd3 (w:World){l:List Nat}(hl:B64 l):
    zJ 134 #[.agg (idA l)] w (.agg (wA (ldF l))):=by
 obtain⟨cs,hcs⟩:=xq (idA l)
 obtain⟨p,hp⟩:=xq w.heap.size
 have HL:=Hd hl;have HP:=Hd hp;have HCS:=Hd hcs
 obtain⟨zs,hzs⟩:=xq (wA (List.replicate 16 0))
 have Z0:Hid (zs=#[.int .u32 0,.int .u32 0,.int .u32 0,.int .u32 0,.int .u32 0,.int .u32 0,.int .u32 0,.int .u32 0,.int .u32 0,.int .u32 0,.int .u32 0,.int .u32 0,.int .u32 0,.int .u32 0,.int .u32 0,.int .u32 0]):=Hd (by rw[hzs];rfl)
 obtain⟨w3,hw3⟩:=xq ((((w.alloc (.cells cs 184)).alloc (.cells zs 196)).alloc (.cells zs 196)))
 have B3:Hid (Bw w w3):=Hd (by rw[hw3];exact(((zR _ _).alloc (zL _) _).alloc (by simp) _).alloc (by simp;omega) _)
 have b0:w3.heap[w.heap.size]?=some (.cells cs 184 (0,0)):=by
  rw[hw3];exact Xae (Xae (heap_alloc_last w _))
 have b1:WB w3 (w.heap.size+1) 196 (List.replicate 16 0):=by
  unfold WB;rw[hw3,←hzs];have:=heap_alloc_last (w.alloc (.cells cs 184)) (.cells zs 196);rw[World.size_alloc] at this;exact Xae this
 have b2:WB w3 (w.heap.size+2) 196 (List.replicate 16 0):=by
  unfold WB;rw[hw3,←hzs];have:=heap_alloc_last ((w.alloc (.cells cs 184)).alloc (.cells zs 196)) (.cells zs 196);rw[World.size_alloc,World.size_alloc] at this;exact this
 have W3:=Hd hw3
 have LD:=Hd (run_loadVar_row (P:=prog) w3 w.heap.size _ 184 cs _ _ b0 underlying184 rfl (by rw[hcs,Xag,hl.len];exact Xtp))
 have EX:=Hd (fun j hj c hc w=>Yh8 hl.len j hj c hc w)
 rw[←hcs]
 clear hl hcs hp hw3 b0 hzs
 go_enter func134,ntmps134
 go_upto_region 2 with fail
 have W3':=W3.o
 rw[Z0.o] at W3'
 rw[←W3']
 rw[show w.heap.size+1+1=w.heap.size+2 from rfl]
 clear W3' W3
 refine wp_region_list ?_
 simp only[]
 refine Xac 184 rfl _ rfl ⟨_,_,rfl,LD.o,?_⟩
 clear LD
 go_wp2_with fail
 go_loopg [4,5,7] 64 (fun k v4 v5 i wr=>∃j:Nat,j≤64∧k=64-j∧i=.int .i64 (j:Int)∧WB wr (w.heap.size+2) 196 (Xxf l j)∧WB wr (w.heap.size+1) 196 (List.replicate 16 0)∧Bw w wr)
 case atStart=>exact⟨0,by omega,rfl,rfl,b2,b1,B3.o⟩
 case round=>
  obtain⟨j,hj,rfl,rfl,h2,h1,hbw⟩:=hrel
  have HB:=Hd hbw
  have H1:=Hd h1;have H2:=Hd h2
  have LO:=Hd (Xzl HL.o.lt j)
  clear hbw h1 h2 b1 b2
  by_cases h:j<64
  ·obtain⟨c,hc⟩:=xq (l.getD j 0)
   have ix:∀w,(Instr.index 184 (.agg cs) (.int .i64 (j:Int))).run prog w=.ok (.int .u8 (c:Int)) w:=fun w=>by rw[HCS.o];exact EX.o j h c hc w
   have hjl:j<l.length:=by rw[HL.o.len];exact h
   have hc2:c<256:=by rw[hc,List.getD_eq_getElem?_getD,List.getElem?_eq_getElem hjl,Option.getD_some];exact HL.o.lt _ (zG hjl)
   obtain⟨q,hq⟩:=xq (j/4)
   have hq2:q<16:=by omega
   obtain⟨v,hv⟩:=xq ((Xxf l j).getD q 0)
   have hv2:v<4294967296:=by rw[hv];exact LO.o.at q
   have cl:wr.cell? ⟨w.heap.size+2,q,none⟩=some (.int .u32 ((v:Nat):Int)):=by rw[hv];exact H2.o.cell (by rw[LO.o.len];exact hq2)
   have fr:wr.frozen? ⟨w.heap.size+2,q,none⟩=false:=Xdn H2.o q
   have NX:Hid (Xxf l (j+1)=(Xxf l j).set q (Xdx v 8|||c)):=Hd (by rw[Xk0];unfold Xp1;rw[←hq,←hv,←hc])
   have jq:(j:Int)/4=(q:Int):=by omega
   clear hq hv hc hjl
   go_wp2_with fail
   have e0:((v:Int)*256%4294967296)=((Xdx v 8:Nat):Int):=by unfold Xdx;omega
   rw[e0,u32_or_nat (Xdx v 8) c (Nat.mod_lt _ (by omega)) (by omega)]
   go_roundg (64-(j+1))
   case measure=>omega
   case rel=>exact⟨j+1,by omega,rfl,by go_num,by rw[NX.o];exact H2.o.set q _,by have:=H1.o;unfold WB at this⊢;rw[Xkr _ _ _ _ _ (by omega)];exact this,HB.o.setCell (Nat.le_add_right _ 2) _⟩
  ·obtain rfl:j=64:=by omega
   have L2:=Hd (H2.o.load LO.o)
   have Z1:=Xb4 (List.replicate 16 0)
   have ST:=Hd (run_storeVar_row (P:=prog) wr (w.heap.size+1) _ 196 (wA (List.replicate 16 0)) (wA (ldF l)) H1.o (by rw[Xb4];unfold ldF;rw[LO.o.len];exact Xnj) (by rw[Xb4,Xb4];unfold ldF;rw[LO.o.len];simp) (Xo2 _))
   have W2:=Hd (setRow_heap wr (w.heap.size+1) _ (wA (ldF l)) _ _ H1.o)
   have SZ:Hid ((prog.info? 196).map (·.size)=some (wA (ldF l)).size):=Hd (by rw[Xb4];unfold ldF;rw[LO.o.len];exact Xnj)
   have BE:=Hd (below_setRow HB.o (Nat.le_succ _) (wA (ldF l)))
   obtain⟨rs,hrs⟩:=xq (wA (ldF l))
   have e1:wA (Xxf l 64)=wA (ldF l):=rfl
   rw[e1,←hrs] at L2
   rw[←hrs] at ST W2 SZ BE
   have HRS:=Hd hrs
   clear hrs e1 Z1 h HB EX
   go_wp2_with (first
    |((with_reducible refine Xac 196 rfl _ rfl ?_);refine⟨_,_,rfl,L2.o,?_⟩)
    |((with_reducible refine Xab 196 rfl _ _ rfl ?_);refine⟨_,_,_,rfl,rfl,ST.o,?_⟩))
   exact zP (results_cell_row results134 _ _ (w.heap.size+1) _ _ _ _ rfl W2.o underlying196 rfl SZ.o) rfl ⟨by rw[HRS.o],BE.o⟩
theorem Ydk (w:World)(x y:W8):
    zJ 184 #[.agg (wC x),.agg (wC y)] w (.agg (wC (Xg7 x y))):=by
 obtain⟨w0,hw0⟩:=xq (((w.alloc (.cells (wC x) 191)).alloc (.cells (wC y) 191)).alloc (.cells wZ 191))
 have b0:w0.heap[w.heap.size]?=some (.cells (wC x) 191 (0,0)):=by rw[hw0];exact Xae (Xae (heap_alloc_last w _))
 have b1:w0.heap[w.heap.size+1]?=some (.cells (wC y) 191 (0,0)):=by
  rw[hw0];have:=heap_alloc_last (w.alloc (.cells (wC x) 191)) (.cells (wC y) 191);rw[World.size_alloc] at this;exact Xae this
 have b2:w0.heap[w.heap.size+2]?=some (.cells wZ 191 (0,0)):=by
  rw[hw0];have:=heap_alloc_last ((w.alloc (.cells (wC x) 191)).alloc (.cells (wC y) 191)) (.cells wZ 191);rw[World.size_alloc,World.size_alloc] at this;exact this
 have BW:Hid (Bw w w0):=Hd (by rw[hw0];exact(((zR _ _).alloc (zL _) _).alloc (by simp) _).alloc (by simp;omega) _)
 have B2:=Hd b2
 have hw0':=hw0
 unfold wC wZ at hw0'
 have W0:=Hd hw0'
 have c0:w0.cell? ⟨w.heap.size,0,none⟩=some (.int .u32 (x.a:Int)):=cell_of_row w0 _ 0 _ _ _ b0
 have c1:w0.cell? ⟨w.heap.size,1,none⟩=some (.int .u32 (x.b:Int)):=cell_of_row w0 _ 1 _ _ _ b0
 have c2:w0.cell? ⟨w.heap.size,2,none⟩=some (.int .u32 (x.c:Int)):=cell_of_row w0 _ 2 _ _ _ b0
 have c3:w0.cell? ⟨w.heap.size,3,none⟩=some (.int .u32 (x.d:Int)):=cell_of_row w0 _ 3 _ _ _ b0
 have c4:w0.cell? ⟨w.heap.size,4,none⟩=some (.int .u32 (x.e:Int)):=cell_of_row w0 _ 4 _ _ _ b0
 have c5:w0.cell? ⟨w.heap.size,5,none⟩=some (.int .u32 (x.f:Int)):=cell_of_row w0 _ 5 _ _ _ b0
 have c6:w0.cell? ⟨w.heap.size,6,none⟩=some (.int .u32 (x.g:Int)):=cell_of_row w0 _ 6 _ _ _ b0
 have c7:w0.cell? ⟨w.heap.size,7,none⟩=some (.int .u32 (x.i:Int)):=cell_of_row w0 _ 7 _ _ _ b0
 have d0:w0.cell? ⟨w.heap.size+1,0,none⟩=some (.int .u32 (y.a:Int)):=cell_of_row w0 _ 0 _ _ _ b1
 have d1:w0.cell? ⟨w.heap.size+1,1,none⟩=some (.int .u32 (y.b:Int)):=cell_of_row w0 _ 1 _ _ _ b1
 have d2:w0.cell? ⟨w.heap.size+1,2,none⟩=some (.int .u32 (y.c:Int)):=cell_of_row w0 _ 2 _ _ _ b1
 have d3:w0.cell? ⟨w.heap.size+1,3,none⟩=some (.int .u32 (y.d:Int)):=cell_of_row w0 _ 3 _ _ _ b1
 have d4:w0.cell? ⟨w.heap.size+1,4,none⟩=some (.int .u32 (y.e:Int)):=cell_of_row w0 _ 4 _ _ _ b1
 have d5:w0.cell? ⟨w.heap.size+1,5,none⟩=some (.int .u32 (y.f:Int)):=cell_of_row w0 _ 5 _ _ _ b1
 have d6:w0.cell? ⟨w.heap.size+1,6,none⟩=some (.int .u32 (y.g:Int)):=cell_of_row w0 _ 6 _ _ _ b1
 have d7:w0.cell? ⟨w.heap.size+1,7,none⟩=some (.int .u32 (y.i:Int)):=cell_of_row w0 _ 7 _ _ _ b1
 have R:Hid (wC (Xg7 x y)=#[.int .u32 (((x.a:Int)+(y.a:Int))%4294967296),.int .u32 (((x.b:Int)+(y.b:Int))%4294967296),.int .u32 (((x.c:Int)+(y.c:Int))%4294967296),.int .u32 (((x.d:Int)+(y.d:Int))%4294967296),.int .u32 (((x.e:Int)+(y.e:Int))%4294967296),.int .u32 (((x.f:Int)+(y.f:Int))%4294967296),.int .u32 (((x.g:Int)+(y.g:Int))%4294967296),.int .u32 (((x.i:Int)+(y.i:Int))%4294967296)]):=Hd (by unfold wC Xg7;simp only[Xdi])
 have e0:w0.frozen? ⟨w.heap.size+2,0,none⟩=false:=Xdn b2 0
 have g0:w0.cell? ⟨w.heap.size+2,0,none⟩=some (.int .u32 0):=cell_of_row w0 _ 0 _ _ _ b2
 have e1:w0.frozen? ⟨w.heap.size+2,1,none⟩=false:=Xdn b2 1
 have g1:w0.cell? ⟨w.heap.size+2,1,none⟩=some (.int .u32 0):=cell_of_row w0 _ 1 _ _ _ b2
 have e2:w0.frozen? ⟨w.heap.size+2,2,none⟩=false:=Xdn b2 2
 have g2:w0.cell? ⟨w.heap.size+2,2,none⟩=some (.int .u32 0):=cell_of_row w0 _ 2 _ _ _ b2
 have e3:w0.frozen? ⟨w.heap.size+2,3,none⟩=false:=Xdn b2 3
 have g3:w0.cell? ⟨w.heap.size+2,3,none⟩=some (.int .u32 0):=cell_of_row w0 _ 3 _ _ _ b2
 have e4:w0.frozen? ⟨w.heap.size+2,4,none⟩=false:=Xdn b2 4
 have g4:w0.cell? ⟨w.heap.size+2,4,none⟩=some (.int .u32 0):=cell_of_row w0 _ 4 _ _ _ b2
 have e5:w0.frozen? ⟨w.heap.size+2,5,none⟩=false:=Xdn b2 5
 have g5:w0.cell? ⟨w.heap.size+2,5,none⟩=some (.int .u32 0):=cell_of_row w0 _ 5 _ _ _ b2
 have e6:w0.frozen? ⟨w.heap.size+2,6,none⟩=false:=Xdn b2 6
 have g6:w0.cell? ⟨w.heap.size+2,6,none⟩=some (.int .u32 0):=cell_of_row w0 _ 6 _ _ _ b2
 have e7:w0.frozen? ⟨w.heap.size+2,7,none⟩=false:=Xdn b2 7
 have g7:w0.cell? ⟨w.heap.size+2,7,none⟩=some (.int .u32 0):=cell_of_row w0 _ 7 _ _ _ b2
 clear hw0 hw0' b0 b1 b2
 unfold wC
 go_enter func184,ntmps184
 go_upto_region 1 with fail
 rw[←W0.o,show w.heap.size+1+1=w.heap.size+2 from rfl]
 clear W0
 go_wp2_with fail
 exact zP (results_cell_row results184 _ _ (w.heap.size+2) _ _ _ _ rfl (Ync (w:=w0) B2.o _ _ _ _ _ _ _ _) underlying191 rfl Xdc) rfl ⟨(by have:=R.o;unfold wC at this;rw[this]),Xm8 BW.o (Nat.le_add_right _ 2) _ _ _ _ _ _ _ _⟩
end Go.Proofs.YtjolcnopipbkhaaGreatDoor
