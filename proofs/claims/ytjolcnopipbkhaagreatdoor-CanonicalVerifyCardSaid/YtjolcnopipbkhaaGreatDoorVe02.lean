/- What the walks read of the program's variables. -/
import Derived.Test.YtjolcnopipbkhaaGreatDoorVe01
import Derived.Lib.LaidTab
import Derived.Lib.ItoaNum
import Derived.Deep.MidRow
import Derived.Maps.OwnOps
import Derived.Maps.OwnSet
import Derived.Laws.BitsLemmas
import Derived.RangeFuncNested
import Derived.RangeFuncBound
import Derived.RangeFuncCalls
import Derived.RangeFuncLeaves
import Derived.RangeFuncBox
import Derived.Shelf.Abstract
import Derived.Shelf.RegionOpen
import Derived.OwnWalkIn
import Derived.TacticsInMore
import Derived.LoopNIn
import Derived.LoopIn
import Derived.Maps.AppendAt
import Derived.Laws.BitsAllLaws
import Derived.Laws.Rows
import Derived.Laws.CopyOwn
namespace Go.Proofs.YtjolcnopipbkhaaGreatDoor
open Go.Proofs.Tryz
open Go.RowKit Go.Maps
set_option linter.unusedVariables false
set_option maxHeartbeats 100000000
set_option maxRecDepth 100000
structure Env (w:World):Prop where
 tab:Tab w
 pow : Lib.TabIs prog w "internal/strconv.uint64pow10" .u64 Lib.pow10Tab
 mx:∃m,w.cell? ⟨2,0,none⟩=some (.int .i64 m)
 sha:∀i,i<64→w.cell? ⟨1,i,none⟩=some (.int .u32 ((shK.getD i 0:Nat):Int))
 fw:∀i,i<11→w.cell? ⟨0,i,none⟩=some (.string (Xax (fWords.getD i [])))
 size:9≤w.heap.size
theorem Xrb {w w':World}{n:String}{g:Nat}{k:IntKind}{zs:List Int}{B:Nat}(h:Lib.TabIs prog w n k zs)(hg:prog.globalNamed n=some g)(hb:Below B w w')(hB:g<B):Lib.TabIs prog w' n k zs:=by unfold Lib.TabIs World.var? at h⊢;rw[hg] at h⊢;simp only[Option.bind_some] at h⊢;rw[hb.block g hB];exact h
theorem Env.below {B:Nat}{w w':World}(h:Env w)(hb:Below B w w')(hB:9≤B):Env w':=
 ⟨h.tab.below hb (Nat.lt_of_lt_of_le (by decide) hB),Xrb h.pow (g:=4) (by kernel_rfl) hb (Nat.lt_of_lt_of_le (by decide) hB),(by
  obtain⟨m,a⟩:=h.mx;exact⟨m,(hb.cell (p:=⟨2,0,none⟩) (Nat.lt_of_lt_of_le (by show(_:Nat)<9;decide) hB)).trans a⟩),
  fun i hi=>(hb.cell (p:=⟨1,i,none⟩) (Nat.lt_of_lt_of_le (show(1:Nat)<9 by decide) hB)).trans (h.sha i hi),
  fun i hi=>(hb.cell (p:=⟨0,i,none⟩) (Nat.lt_of_lt_of_le (show(0:Nat)<9 by decide) hB)).trans (h.fw i hi),Nat.le_trans h.size hb.size⟩
theorem Env.on {w w':World}(h:Env w)(hb:Bw w w'):Env w':=h.below hb h.size
theorem Yo2 (w0 w:World)(B fr tt bits count g:Nat)(f:Nat→Nat)(xs:List Nat)(h:RG B fr tt 249 bits count xs w)(hb:Below B w0 w)(hp:Xvi w0 B 249 (2^tt) f) (hfr:fr≤8) (htt:1≤tt) (htt8:tt≤8) (hc:count<tt) (hbits:bits<2^count) (hg:g<2^fr) (O:xs.length≤900000):Calls prog 261 #[.int .i64 g,.pointer (some ⟨B+5,0,none⟩),.pointer (some ⟨B+2,0,none⟩),.pointer (some ⟨B+6,0,none⟩),.pointer (some ⟨B+3,0,none⟩),.pointer (some ⟨B+4,0,none⟩)] w fun e w'=>
     e=.returned (.tuple #[])∧Below B w0 w'∧KM w w'∧∃b c ys,Xb6 f tt 16 (bits*2^fr+g) (count+fr) xs=(b,c,ys)∧RG B fr tt 249 b c ys w':=by
 have c5:=cell_of_one h.bBits;have c2:=cell_of_one h.bFrom;have c6:=cell_of_one h.bCount;have f5:=free_of_one h.bBits;have f6:=free_of_one h.bCount;have P:2^count≤2^8:=Nat.pow_le_pow_right (by omega) (by omega);have Q:2^fr≤2^8:=Nat.pow_le_pow_right (by omega) (by omega);have D:=Xjk hbits hg;have b1:bits<256:=by omega
 have b2:g<256:=by omega
 obtain⟨x,L⟩:=xq (bits*2^fr+g);obtain⟨y,R⟩:=xq (count+fr);have H:y<16:=by omega
 have ey:(count:Int)+(fr:Int)=(y:Int):=by omega
 have e0:Go.bits .or .i64 (wrap64 ((bits:Int)*2^fr)) (g:Int)=(x:Int):=by rw[L];exact Xue bits fr g b1 hfr hg
 have r0:RG B fr tt 249 x y xs (((w.setCell ⟨B+5,0,none⟩ (.int .i64 (x:Int))).setCell ⟨B+6,0,none⟩ (.int .i64 (y:Int))).drew):=((h.setBits _).setCount _).drew;have q0:Below B w0 (((w.setCell ⟨B+5,0,none⟩ (.int .i64 (x:Int))).setCell ⟨B+6,0,none⟩ (.int .i64 (y:Int))).drew):=((hb.setCell (by simp) _).setCell (by simp) _).drew;have V:x<2^y:=by rw[L,R];exact D
 rw[←L,←R];have k0:KM w (((w.setCell ⟨B+5,0,none⟩ (.int .i64 (x:Int))).setCell ⟨B+6,0,none⟩ (.int .i64 (y:Int))).drew):=((KM.setCell h.bBits 0 _).trans (KM.setCell (h.setBits x).bCount 0 _)).drew;have K0:=Hd k0;clear k0;have HP:=Hd hp;have R0:=Hd r0;have Q0:=Hd q0;have BD:=Hd V;clear hp h hb P Q r0 q0 V hbits hg L R D;go_enter func261,ntmps261;go_wp2_with fail;go_region;all_goals go_wp2_with fail
 go_loopg [] 16 (fun k wr=>∃b c ys,RG B fr tt 249 b c ys wr∧Below B w0 wr∧KM w wr∧b<2^c∧c≤k∧c<16∧ys.length+c≤900000+16∧Xb6 f tt k b c ys=Xb6 f tt 16 x y xs);exact⟨x,y,xs,R0.o,Q0.o,K0.o,BD.o,by omega,H,by omega,rfl⟩;obtain⟨b,c,ys,l,K,G,m,aC,aA,aB,p⟩:=hrel;obtain⟨v,hv,j⟩:=l.txt;have k5:=cell_of_one l.bBits;have k3:=cell_of_one l.bTo;have k6:=cell_of_one l.bCount;have k4:=cell_of_one l.bPass;have l5:=free_of_one l.bBits;have l6:=free_of_one l.bCount;clear e0 c5 c2 c6 f5 f6;have C:=Hd G;clear G;by_cases hlt:c<tt;·have HR:=Hd l;have HQ:=Hd K;have M:=Hd p;clear l K p hv j m;go_wp2_with fail;go_end0;refine⟨rfl,HQ.o,C.o,b,c,ys,?_,HR.o⟩;rw[←M.o];cases gk<;>simp[Xb6,hlt]
 obtain⟨d,hd⟩:=xq (c-tt);obtain⟨q,s⟩:=xq (b/2^d);have ed:(c:Int)-(tt:Int)=(d:Int):=by omega
 have eq:(b:Int)/2^d=(q:Int):=by rw[s];push_cast;rfl
 have F:d<16:=by omega
 obtain⟨r,z⟩:=xq (b%2^d);have E:b<65536:=Nat.lt_of_lt_of_le m (Nat.pow_le_pow_right (n:=2) (by omega) (show c≤16 by omega));have J:Go.bits .and .i64 (b:Int) (wrap64 (wrap64 (2^d)-1))=(r:Int):=by rw[z];exact Xq1 b d E (by omega)
 have EM:=Hd J;have W:=Hd z;clear J z;have u:q<2^tt:=by
  rw[s];apply Nat.div_lt_of_lt_mul;rw[←Nat.pow_add];have:d+tt=c:=by omega
  rw[this];exact m
 have r1:=l.setCount d;have T:Below B w0 (wr.setCell ⟨B+6,0,none⟩ (.int .i64 (d:Int))):=K.setCell (by simp) _;have A:ys.length≤1000000:=by omega
 have S:=(ownsRow_setCell_other (a:=⟨B+6,0,none⟩) j (Xd6 (b:=B+6) (t:=3) j l.bCount (by decide)) (.int .i64 (d:Int))).drew;have P1:=Hd (HP.o (wr.setCell ⟨B+6,0,none⟩ (.int .i64 (d:Int))).drew v ys q T.drew ((Below.heap_setCell _ _ _ _ (by simp)).trans hv) S A u);have U:=Hd S;have K1:=Hd (KM.setCell l.bCount 0 (.int .i64 (d:Int)));have V1:Hid ((wr.setCell ⟨B+6,0,none⟩ (.int .i64 (d:Int))).drew.heap[B+1]?=some (.cells #[v] 82 (0,0))):=(Below.heap_setCell _ _ _ _ (by simp)).trans hv;have I:=Hd r1;have M:=Hd p;have Q1:=Hd T;have X:=Hd s;have Y:=Hd hd;have Z:=Hd m;clear l K p hv j m r1 T s hd u S;go_wp2_with fail
 go_region_held3 (fun w'=>w'.cell? ⟨B+4,0,none⟩=some (.func (.func 249) #[] #[.pointer (some ⟨B+1,0,none⟩)])∧w'.cell? ⟨B+5,0,none⟩=some (.int .i64 (b:Int))∧w'.cell? ⟨B+6,0,none⟩=some (.int .i64 (d:Int)))
  (first|exact⟨cell_of_one I.o.drew.bPass,cell_of_one I.o.drew.bBits,cell_of_one I.o.drew.bCount⟩|exact⟨cell_of_one i.o.bPass,cell_of_one i.o.bBits,cell_of_one i.o.bCount⟩)
  (first|(go_at_call 249;refine(P1.o).mono ?_;rintro e w2 ⟨rfl,O,N⟩;have i:=Hd (RG.passed I.o.drew U.o O N);clear O))
 all_goals (have k5:=cell_of_one i.o.bBits;have k6:=cell_of_one i.o.bCount;have l5:=free_of_one i.o.bBits;have J:=EM.o)
 all_goals go_wp2_with fail
 all_goals go_region
 all_goals go_wp2_with fail
 all_goals clear J
 all_goals go_roundg (gk-1)
 case measure=>omega
 case rel=>
  refine⟨r,d,ys++[f q],(i.o.setBits r).drew,(((Q1.o.drew.trans N.below).setCell (by simp) _).drew),?_,?_,by omega,F,by simp;omega,?_⟩;·exact(((C.o.trans K1.o).drew.trans (N.km V1.o U.o)).trans (KM.setCell i.o.bBits 0 _)).drew
  ·rw[W.o];exact Nat.mod_lt _ (Nat.pow_pos (by omega))
  rw[←M.o];obtain⟨k',rfl⟩:∃k',gk=k'+1:=⟨gk-1,by omega⟩
  rw[Xew _ _ _ _ _ _ hlt,←Y.o,←W.o,←X.o];rfl
theorem Yoz (w:World)(Bt g base:Nat)(v:Value)(xs:List Nat) (hT:w.heap[Bt]?=some (.cells #[v] 82 (0,0))) (hown:w.ownsRow base 5 1 v xs.length (xs.map U)) (hbase:base≤w.heap.size) (hBt:base≤Bt) (hn:xs.length≤1000000) (hg:g<256):Calls prog 249 #[.int .i64 g,.pointer (some ⟨Bt,0,none⟩)] w fun e w'=>e=.returned (.tuple #[])∧
     (∃v',w'.heap[Bt]?=some (.cells #[v'] 82 (0,0))∧w'.ownsRow base 5 1 v' (xs.length+1) ((xs++[g]).map U))∧Frame1 base Bt v w w':=by
 obtain⟨u,k,l,m,n⟩:=info_parts Xgl;have B:=cell_of_one hT;have C:=free_of_one hT;have lt:=zY hT;have y:(0:Int)≤(g:Int):=Int.natCast_nonneg _;have z:(g:Int)<256:=by omega
 have f:v.ownBlock≠some Bt:=Xd6 hown hT (by decide);have d:(w.alloc (.cells #[.int .u8 g] 5)).heap[Bt]?=some (.cells #[v] 82 (0,0)):=Xad hT;have x:=Hd hT;have j:=Hd d;have i:=Hd f;clear hT d f;go_enter func249,ntmps249;go_wp2_with ((at_builtin;refine wpList_append_lies _ rfl _ _ _ rfl base 5 u _ 1 1 underlying82 k l m n rfl (by omega) v xs.length (xs.map U) rfl (hown.alloc _) ⟨w.heap.size,0,none⟩ 1 1 [.int .u8 g] rfl rfl (World.news_of_block (cs:=#[.int .u8 g]) (t:=5) (fr:=(0,0)) (zN w _)) (by simp[Value.oneCell']) (by omega) (by unfold maxLen;omega) (by omega) (by simp;omega) (w.heap.size+1) (by simp) ?_;intro A cap w1 c a p s;have b:=Xdh a j.o i.o;have q:=cell_of_one b;have r:=free_of_one b;have h:=Hd b;clear b))
 all_goals go_end0
 all_goals (refine⟨rfl,?_⟩;rw[List.map_append];exact Xlf c a (((zR _ _).alloc (zL _) _)) h.o (by decide) hBt hbase hown)
def alphCells:List Value:=alph.map U
theorem Xi1 (k:Nat)(h:k<64):alphCells[k]?=some (U (al k)):=by
 have a:k<alph.length:=by simp[alph];omega
 simp[alphCells,al,List.getD,List.getElem?_eq_getElem a]
theorem Xo2 {w:World}(h:Tab w):w.rangeAt 3 0 alphCells:=by
 intro j v hv;have a:j<64:=by have:=(List.getElem?_eq_some_iff.1 hv).1;simpa [alphCells,alph] using this
 rw[Xi1 j a] at hv;cases hv;rw[Nat.zero_add];exact h.cell j a
theorem Yff (k:Nat)(h:k<64)(w:World):(Instr.index 184 (.agg alphCells.toArray) (.int .i64 k)).run prog w=.ok (.int .u8 (al k)) w:=by
 have hi:(0:Int)≤(k:Int)∧(k:Int)<64:=by omega
 simp[Instr.index,run_underlying underlying184,asIntOf,hi,go_sem];rw[qP h,Xi1 k h];rfl
theorem Ynt:Keyed prog 5:=int_keyed underlying5
theorem Yk2 (w:World):(zeroValue 3).run prog w=.ok (.int .i64 0) w:=by kernel_rfl
theorem Ynr (w:World):(Instr.makeMap 299 (some (.int .i64 64))).run prog w=.ok (.map (some w.heap.size)) (w.alloc (.map #[] 0)):=by
 kernel_rfl
def Yc3 (k:Nat):DataW Unit:=(List.range k).foldl (fun D i=>D.put (.int .u8 (al i)) (.lit (.int .i64 i))) (.map [])
theorem Xyc (k:Nat):Yc3 (k+1)=(Yc3 k).put (.int .u8 (al k)) (.lit (.int .i64 k)):=by simp[Yc3,List.range_succ]
theorem Ydg:∀c:Nat,c<256→Maps.has (Yc3 64) (.int .u8 c)=(vOf c).isSome:=by decide+kernel
theorem Ydh:∀c:Nat,c<256→(match (Yc3 64).atKey (.int .u8 c) (.lit (.int .i64 0)) with|.lit (.int .i64 x)=>decide (x=((vOf c).getD 0:Nat))|_=>false)=true:=by decide+kernel
theorem Yh6 (c:Nat)(h:c<256)(x:Int)(hx:(Yc3 64).atKey (.int .u8 c) (.lit (.int .i64 0))=.lit (.int .i64 x)):x=((vOf c).getD 0:Nat):=by have:=Ydh c h;rw[hx] at this;simpa using this
theorem Xvn (w:World)(ht:Tab w):Calls prog 250 #[] w fun e w'=>e=.returned (.map (some w.heap.size))∧w'.ownsMap prog 5 (plainElem (H:=Unit) prog 3) w.heap.size 64 (Yc3 64)∧Bw w w':=by
 have q:=Ynr;have r:=Xo2 ht;have l:Hid ((w.alloc (.map #[] 0)).rangeAt 3 0 alphCells):=Xo2 (ht.below ((zR _ _).alloc (zL _) _) ht.size);have hi:(prog.info? 184).map (·.size)=some alphCells.length:=by kernel_rfl
 obtain⟨cs,c⟩:=xq alphCells;rw[←c] at l hi;have g:=Hd c;have n:=Hd hi;clear r ht c hi;go_enter func250,ntmps250;go_wp2_with (with_reducible refine wpList_load_mid rfl 184 _ rfl 3 0 rfl cs _ l.o underlying184 rfl n.o ?_)
 go_loopg [6] 64 (fun k i wr=>∃j,j≤64∧k=64-j∧i=.int .i64 (j:Int)∧wr.ownsMap prog 5 (plainElem (H:=Unit) prog 3) w.heap.size j (Yc3 j)∧Bw w wr);exact⟨0,by omega,by omega,rfl,World.ownsMap_made _ _ _ _,(zR _ _).alloc (zL _) _⟩;obtain⟨j,m,rfl,rfl,b,h⟩:=hrel;by_cases hlt:j<64
 ·have s:∀w,(Instr.index 184 (.agg cs.toArray) (.int .i64 (j:Int))).run prog w=.ok (.int .u8 (al j)) w:=fun w=>by rw[g.o];exact Yff j hlt w
  have p:=Ygp j;have f:keyOf prog 5 (.int .u8 (al j))=some (.int .u8 (al j)):=keyOf_int_mk underlying5 (WalkArith.wf_u8 (by omega));go_wp2_with (at_mapUpdate;refine wpList_mapUpdate_own _ rfl _ _ _ 299 rfl 5 3 Ynt underlying299 _ w.heap.size j _ rfl b (by unfold maxLen;omega) _ _ _ rfl rfl f _ [] (plainElem_int underlying3 (WalkArith.wf_i64 (by omega))) ?_;intro w1 d a)
  go_roundg (64-(j+1));exact⟨j+1,by omega,rfl,by go_num,by rw[Xyc];exact d,h.grown a h.size (fun j m=>by cases m;exact zL _)⟩;omega
 obtain rfl:j=64:=by omega
 go_wp2_with fail;go_ret;exact⟨rfl,b,h⟩
theorem Xbj {P:Program}(t:TypeId)(ht:P.underlying t=some .string)(s:ByteArray)(k:IntKind)(i:Int)(j:Nat)(hi:i=j)(hj:j<s.size)(w:World):(Instr.index t (.string s) (.int k i)).run P w=.ok (.int .u8 (((bs s).getD j 0:Nat):Int)) w:=by subst hi;rw[run_index_string w t s _ _ ht,dif_pos ⟨by omega,by omega⟩,Ykb s j hj];rfl
theorem Xa8 {a b:Int}(h:a=b):(a==b)=true:=by rw[h];exact beq_self_eq_true b
theorem Xar {a b:Int}(h:¬a=b):(a==b)=false:=beq_eq_false_iff_ne.2 h
theorem Xaq {a b:Int}(h:¬a=b):(a !=b)=true:=bne_iff_ne.2 h
theorem Xaw {a b:Int}(h:a=b):(a !=b)=false:=by rw[h];simp
theorem Yf2 (s:ByteArray)(w:World)(hs:s.size≤maxLen):Rx 248 #[.string s] w (.int .i64 (Xbq (bs s):Nat)):=by
 unfold maxLen at hs;by_cases h0:s.size=0
 ·have b:Xbq (bs s)=0:=by unfold Xbq;rw[qP (by rw[Xac];exact .inl h0),Xac,h0]
  rw[b];have f:((s.size:Int)==0)=true:=Xa8 (by omega);clear b;go_enter func248,ntmps248;go_wp2_with fail;go_ret;exact⟨rfl,rfl⟩
 have f:((s.size:Int)==0)=false:=Xar (by omega);by_cases h4:s.size%4=0
 ·have g:((s.size:Int)%4 !=0)=false:=Xaw (by omega);obtain⟨d,a⟩:=xq ((bs s).getD (s.size-1) 0);obtain⟨e,c⟩:=xq ((bs s).getD (s.size-2) 0);have k:∀w,(Instr.index 9 (.string s) (.int .i64 ((s.size:Int)-1))).run prog w=.ok (.int .u8 (d:Int)) w:=fun w=>by rw[Xbj 9 underlying9 s .i64 ((s.size:Int)-1) (s.size-1) (by omega) (by omega),a]
  have j:∀w,(Instr.index 9 (.string s) (.int .i64 ((s.size:Int)-2))).run prog w=.ok (.int .u8 (e:Int)) w:=fun w=>by rw[Xbj 9 underlying9 s .i64 ((s.size:Int)-2) (s.size-2) (by omega) (by omega),c]
  by_cases hl:d=61
  ·have h:((d:Int) !=61)=false:=Xaw (by omega);by_cases hm:e=61
   ·have b:Xbq (bs s)=s.size-2:=by unfold Xbq;rw[qN (by rw[Xac,←a];omega),qP (by rw[Xac,←c];exact hm),Xac]
    rw[b];have i:((e:Int)==61)=true:=Xa8 (by omega);clear b a c hl hm;go_enter func248,ntmps248;go_wp2_with fail;go_ret;refine⟨?_,rfl⟩;simp;omega
   have b:Xbq (bs s)=s.size-1:=by unfold Xbq;rw[qN (by rw[Xac,←a];omega),qN (by rw[Xac,←c];exact hm),Xac]
   rw[b];have i:((e:Int)==61)=false:=Xar (by omega);clear b a c hl hm;go_enter func248,ntmps248;go_wp2_with fail;go_ret;refine⟨?_,rfl⟩;simp;omega
  have b:Xbq (bs s)=s.size:=by unfold Xbq;rw[qP (by rw[Xac,←a];exact .inr (.inr hl)),Xac]
  rw[b];have h:((d:Int) !=61)=true:=Xaq (by omega);clear b a c hl;go_enter func248,ntmps248;go_wp2_with fail;go_ret;exact⟨rfl,rfl⟩
 have g:((s.size:Int)%4 !=0)=true:=Xaq (by omega);have b:Xbq (bs s)=s.size:=by unfold Xbq;rw[qP (by rw[Xac];exact .inr (.inl h4)),Xac]
 rw[b];clear b;go_enter func248,ntmps248;go_wp2_with fail;go_ret;exact⟨rfl,rfl⟩
def Dr (w w':World):Prop:=∃q,w'=w.drewN q
abbrev Rz (f:FuncId)(xs:Array Value)(w:World)(v:Value):Prop:=Calls prog f xs w fun e w'=>e=.returned v∧Dr w w'
theorem Dr.refl (w:World):Dr w w:=⟨0,rfl⟩
theorem Xd0 (w:World)(a b:Nat):(w.drewN a).drewN b=w.drewN (a+b):=by simp[World.drewN,Nat.add_assoc]
theorem Dr.drewN {w w':World}(h:Dr w w')(q:Nat):Dr w (w'.drewN q):=by obtain⟨p,rfl⟩:=h;exact⟨p+q,Xd0 _ _ _⟩
theorem Dr.trans {a b c:World}(h:Dr a b)(h':Dr b c):Dr a c:=by obtain⟨q,rfl⟩:=h';exact h.drewN q
theorem Ydi (w:World)(c:Nat)(hc:c<256):Rx 268 #[.int .u8 (c:Int)] w (.int .i64 (Xgf c:Int)):=by
 have e:c≤127∨(127<c∧c<194)∨(194≤c∧c≤223)∨(224≤c∧c≤239)∨(240≤c∧c≤244)∨244<c:=by omega
 have b:Xgf c=if c≤127 then 1 else if c<194 then 0 else if c≤223 then 2 else if c≤239 then 3 else if c≤244 then 4 else 0:=rfl
 have d:=Hd b;clear b;rcases e with h|⟨h,a⟩|⟨h,a⟩|⟨h,a⟩|⟨h,a⟩|h
 all_goals
  go_enter func268,ntmps268;go_wp2_with fail;go_ret;refine⟨?_,rfl⟩;rw[d.o]
  first
   |rw[qP (by omega)];rfl
   |rw[qN (by omega),qP (by omega)];rfl
   |rw[qN (by omega),qN (by omega),qP (by omega)];rfl
   |rw[qN (by omega),qN (by omega),qN (by omega),qP (by omega)];rfl
   |rw[qN (by omega),qN (by omega),qN (by omega),qN (by omega),qP (by omega)];rfl
   |rw[qN (by omega),qN (by omega),qN (by omega),qN (by omega),qN (by omega)];rfl
theorem Xem {f i c lo hi:Nat}(h1:(if i=1∧f=224 then 160 else if i=1∧f=240 then 144 else 128)=lo)(h2:(if i=1∧f=237 then 159 else if i=1∧f=244 then 143 else 191)=hi){b:Bool}(hb:b=(decide (lo≤c)&&decide (c≤hi))):Xgv f i c=b:=by unfold Xgv;rw[h1,h2,hb]
theorem Xa5 {a b:Bool}(h:a=b):Ending.returned (.bool a)=.returned (.bool b):=by rw[h]
theorem Xo0 (w:World)(f i c:Nat)(hf:f<256)(hi:i<5)(hc:c<256):Rx 269 #[.int .u8 (f:Int),.int .i64 (i:Int),.int .u8 (c:Int)] w (.bool (Xgv f i c)):=by
 obtain⟨b,e⟩:=xq (Xgv f i c);rw[←e];have d:=Hd e;clear e;by_cases h1:i=1
 ·subst h1;have g:(f≠224∧f≠237∧f≠240∧f≠244)∨f=224∨f=237∨f=240∨f=244:=by omega
  rcases g with⟨h,h2,h3,h4⟩|rfl|rfl|rfl|rfl
  ·rcases(by omega:c<128∨(128≤c∧c≤191)∨191<c) with a|⟨a,a'⟩|a
   all_goals
    have j:((f:Int)==224)=false:=Xar (by omega);have k:((f:Int)==237)=false:=Xar (by omega);have l:((f:Int)==240)=false:=Xar (by omega);have m:((f:Int)==244)=false:=Xar (by omega);go_enter func269,ntmps269;go_wp2_with fail;go_ret;refine⟨?_,rfl⟩;rw[d.o,Xem (lo:=128) (hi:=191) (by rw[qN (fun h'=>h h'.2),qN (fun h'=>h3 h'.2)]) (by rw[qN (fun h'=>h2 h'.2),qN (fun h'=>h4 h'.2)]) rfl];exact Xa5 (by rw[Bool.eq_iff_iff];simp only[Bool.and_eq_true,decide_eq_true_eq,false_iff,Bool.false_eq_true];omega)
  ·rcases(by omega:c<160∨(160≤c∧c≤191)∨191<c) with a|⟨a,a'⟩|a
   all_goals
    go_enter func269,ntmps269;go_wp2_with fail;go_ret;refine⟨?_,rfl⟩;rw[d.o,Xem (lo:=160) (hi:=191) (by rfl) (by rfl) rfl];exact Xa5 (by rw[Bool.eq_iff_iff];simp only[Bool.and_eq_true,decide_eq_true_eq,false_iff,Bool.false_eq_true];omega)
  ·rcases(by omega:c<128∨(128≤c∧c≤159)∨159<c) with a|⟨a,a'⟩|a
   all_goals
    go_enter func269,ntmps269;go_wp2_with fail;go_ret;refine⟨?_,rfl⟩;rw[d.o,Xem (lo:=128) (hi:=159) (by rfl) (by rfl) rfl];exact Xa5 (by rw[Bool.eq_iff_iff];simp only[Bool.and_eq_true,decide_eq_true_eq,false_iff,Bool.false_eq_true];omega)
  ·rcases(by omega:c<144∨(144≤c∧c≤191)∨191<c) with a|⟨a,a'⟩|a
   all_goals
    go_enter func269,ntmps269;go_wp2_with fail;go_ret;refine⟨?_,rfl⟩;rw[d.o,Xem (lo:=144) (hi:=191) (by rfl) (by rfl) rfl];exact Xa5 (by rw[Bool.eq_iff_iff];simp only[Bool.and_eq_true,decide_eq_true_eq,false_iff,Bool.false_eq_true];omega)
  rcases(by omega:c<128∨(128≤c∧c≤143)∨143<c) with a|⟨a,a'⟩|a
  all_goals
   go_enter func269,ntmps269;go_wp2_with fail;go_ret;refine⟨?_,rfl⟩;rw[d.o,Xem (lo:=128) (hi:=143) (by rfl) (by rfl) rfl];exact Xa5 (by rw[Bool.eq_iff_iff];simp only[Bool.and_eq_true,decide_eq_true_eq,false_iff,Bool.false_eq_true];omega)
 rcases(by omega:c<128∨(128≤c∧c≤191)∨191<c) with a|⟨a,a'⟩|a
 all_goals
  have j:((i:Int)==1)=false:=Xar (by omega);go_enter func269,ntmps269;go_wp2_with fail;go_ret;refine⟨?_,rfl⟩;rw[d.o,Xem (lo:=128) (hi:=191) (by rw[qN (fun h'=>h1 h'.1),qN (fun h'=>h1 h'.1)]) (by rw[qN (fun h'=>h1 h'.1),qN (fun h'=>h1 h'.1)]) rfl];exact Xa5 (by rw[Bool.eq_iff_iff];simp only[Bool.and_eq_true,decide_eq_true_eq,false_iff,Bool.false_eq_true];omega)
def Xvj (l:List Nat)(w:World)(e:Ending)(w':World):Prop:=
 ∃n:Nat,e=.returned (.tuple #[.int .i64 (n:Int),.bool (Xb8 l)])∧n≤l.length∧n≤4∧(Xb8 l=true→n=rn l)∧Dr w w'
theorem Yc5 (s:ByteArray)(c:Nat)(hc:c=(bs s).getD 0 0)(h:0<s.size)(w:World):(Instr.index 9 (.string s) (.int .i64 0)).run prog w=.ok (.int .u8 (c:Int)) w:=by rw[Xbj 9 underlying9 s .i64 0 0 rfl h,hc]
theorem Xbd (s:ByteArray)(i:Nat):(bs s).getD i 0<256:=by
 by_cases h:i<(bs s).length;·have:=Xhs s (bs s)[i] (zG h);simpa [List.getD,h] using this
 simp[List.getD,h]
theorem Xvc {s:ByteArray}(h:s.size=0):bs s=[]:=List.length_eq_zero_iff.1 (by rw[Xac];exact h)
theorem Xd9 {s:ByteArray}(h:s.size=0):s=⟨#[]⟩:=by rw[←Xe3 s,Xvc h];rfl
theorem Xfa {s:ByteArray}(h:s.size≠0):s.toList.isEmpty=false:=by rw[List.isEmpty_eq_false_iff];intro e;apply h;rw[←Xac,bs,←ByteArray.toList_eq,e];rfl
theorem Xke (s:ByteArray)(w:World)(hs:s.size≤maxLen):Calls prog 237 #[.string s] w (Xvj (bs s) w):=by
 unfold maxLen at hs;by_cases h0:s.size=0;·obtain rfl:=Xd9 h0;clear h0 hs;go_enter func237,ntmps237;go_wp2_with fail;go_ret2;exact⟨0,rfl,by simp,by omega,(fun h=>by cases h),Dr.refl _⟩
 obtain⟨f,A⟩:=xq ((bs s).getD 0 0);have p:f<256:=by rw[A];exact Xbd s 0
 have Y:=Yc5 s f A (by omega);have X:=Xfa h0;obtain⟨z,B⟩:=xq (Xgf f);have Q:z≤4:=by rw[B];exact Xjv f
 have J:Hid (∀w,Rx 268 #[.int .u8 (f:Int)] w (.int .i64 (z:Int))):=fun w=>by rw[B];exact Ydi w f p
 have x:=Hd A;have y:=Hd B;clear A B;by_cases hz0:z=0
 ·have T:((z:Int)==0)=true:=Xa8 (by omega);go_enter func237,ntmps237;go_wp2_with (go_at_call 268;refine(J.o _).mono ?_;rintro e w' ⟨rfl,rfl⟩)
  go_ret2;have l:Xb8 (bs s)=false:=Xja _ (by rw[←x.o,←y.o];exact fun h=>h.1 hz0);exact⟨0,by rw[l];rfl,by simp,by omega,(fun h=>by rw[l] at h;cases h),Dr.refl _⟩
 have T:((z:Int)==0)=false:=Xar (by omega);go_enter func237,ntmps237;go_wp2_with (go_at_call 268;refine(J.o _).mono ?_;rintro e w' ⟨rfl,rfl⟩)
 go_loopg [2] 3 (fun k i wr=>∃n:Nat,1≤n∧n≤z∧n≤s.size∧k=4-n∧i=.int .i64 (n:Int)∧Hid (∀j,1≤j→j<n→Xgv f j ((bs s).getD j 0)=true)∧Dr w wr);exact⟨1,by omega,by omega,by omega,rfl,rfl,(fun j a b=>by omega),Dr.refl _⟩;obtain⟨n,P,W,E,rfl,rfl,L,M⟩:=hrel;have g:∀(b:Bool) (w':World),Dr w w'→b=((n:Int)==(z:Int))→(n=z∨(n<z∧(s.size≤n∨Xgv f n ((bs s).getD n 0)=false)))→Xvj (bs s) w (.returned (.tuple #[.int .i64 (n:Int),.bool b])) w':=by
  intro b w' t K F;rcases F with rfl|⟨G,H⟩;·have l:Xb8 (bs s)=true:=(Xcd _).2 (by rw[←x.o,←y.o];exact⟨hz0,by rw[Xac];exact E,L.o⟩);exact⟨n,by rw[K,l];simp,by rw[Xac];exact E,by omega,(fun _=>by rw[(Xfq l).1,←x.o,←y.o]),t⟩
  have l:Xb8 (bs s)=false:=Xja _ (by
   rw[←x.o,←y.o,Xac];rintro⟨_,R,S⟩;rcases H with h|h;·omega
   rw[S n P G] at h;cases h)
  exact⟨n,by rw[K,l,Xar (by omega)],by rw[Xac];exact E,by omega,(fun h=>by rw[l] at h;cases h),t⟩
 have D:=Hd g;have v:=Hd M;clear g M;by_cases a:n<z
 ·have N:decide ((n:Int)<(z:Int))=true:=by simpa using a
  have V:((n:Int)==(z:Int))=false:=Xar (by omega);by_cases b:n<s.size
  ·have O:decide ((n:Int)<(s.size:Int))=true:=by simpa using b
   obtain⟨c,d⟩:=xq ((bs s).getD n 0);have r:c<256:=by rw[d];exact Xbd s n
   have Z:∀w,(Instr.index 9 (.string s) (.int .i64 (n:Int))).run prog w=.ok (.int .u8 (c:Int)) w:=fun w=>by rw[Xbj 9 underlying9 s .i64 n n rfl b,d]
   by_cases u:Xgv f n c=true
   ·have C:Hid (∀q,Calls prog 269 #[.int .u8 (f:Int),.int .i64 (n:Int),.int .u8 (c:Int)] (wr.drewN q) fun e w'=>e=.returned (.bool true)∧w'=wr.drewN q):=fun q=>(Xo0 _ f n c p (by omega) r).mono fun e w' h=>⟨by rw[←u];exact h.1,h.2.symm⟩
    have U:=Hd u;have m:=Hd d;clear u d;go_wp2_with fail;go_quiet ((go_at_call 269;exact Calls.quiet_of_same (C.o _)));go_wp2_with fail;go_roundg (4-(n+1))
    exact⟨n+1,by omega,by omega,by omega,rfl,by go_num,(fun j k1 R=>by
     by_cases e:j=n;·rw[e,←m.o];exact U.o
     exact L.o j k1 (by omega)),v.o.drewN _⟩
    omega
   have I:Xgv f n c=false:=by simpa using u
   have C:Hid (∀q,Calls prog 269 #[.int .u8 (f:Int),.int .i64 (n:Int),.int .u8 (c:Int)] (wr.drewN q) fun e w'=>e=.returned (.bool false)∧w'=wr.drewN q):=fun q=>(Xo0 _ f n c p (by omega) r).mono fun e w' h=>⟨by rw[←I];exact h.1,h.2.symm⟩
   have U:=Hd I;have m:=Hd d;clear u I d;go_wp2_with fail;go_quiet ((go_at_call 269;exact Calls.quiet_of_same (C.o _)));go_wp2_with fail;go_ret2;exact D.o _ _ (v.o.drewN _) (Xar (by omega)).symm (.inr ⟨a,.inr (by rw[←m.o];exact U.o)⟩)
  have O:decide ((n:Int)<(s.size:Int))=false:=by simpa using b
  go_wp2_with fail;go_quiet (fail);go_wp2_with fail;go_ret2;exact D.o _ _ (v.o.drewN _) (Xar (by omega)).symm (.inr ⟨a,.inl (by omega)⟩)
 have N:decide ((n:Int)<(z:Int))=false:=by simpa using a
 have V:((n:Int)==(z:Int))=true:=Xa8 (by omega);go_wp2_with fail;go_quiet (fail);go_wp2_with fail;go_ret2;exact D.o _ _ (v.o.drewN _) (Xa8 (by omega)).symm (.inl (by omega))
def Yks (w:World)(e:Ending)(w':World):Prop:=∃r:Int,e=.returned (.int .i32 r)∧w=w'
theorem Xvr (s:ByteArray)(w:World)(h0:0<s.size)(hs:s.size≤4):Calls prog 238 #[.string s] w (Yks w):=by
 obtain⟨f,d⟩:=xq ((bs s).getD 0 0);have g:f<256:=by rw[d];exact Xbd s 0
 have l:=Yc5 s f d h0;clear d;by_cases h1:1<s.size
 all_goals
  go_enter func238,ntmps238;go_wp2_with fail;go_loopg [3,4] 3 (fun k r i wr=>∃(n:Nat) (x:Int),1≤n∧n≤s.size∧k=4-n∧i=.int .i64 (n:Int)∧r=.int .i32 x∧w=wr);exact⟨1,_,by omega,by omega,rfl,rfl,rfl,rfl⟩;obtain⟨n,x,j,h,rfl,rfl,rfl,rfl⟩:=hrel;by_cases b:n<s.size
  ·obtain⟨c,a⟩:=xq ((bs s).getD n 0);have e:c<256:=by rw[a];exact Xbd s n
   have m:∀w,(Instr.index 9 (.string s) (.int .i64 (n:Int))).run prog w=.ok (.int .u8 (c:Int)) w:=fun w=>by rw[Xbj 9 underlying9 s .i64 n n rfl b,a]
   clear a;go_wp2_with fail;go_roundg (4-(n+1));exact⟨n+1,_,by omega,by omega,rfl,by go_num,rfl,rfl⟩;omega
  go_wp2_with fail;go_ret;exact⟨_,rfl,rfl⟩
theorem Xb3 (t:ByteArray)(a b:Nat):bs (t.extract a b)=((bs t).take b).drop a:=by unfold bs;simp[ByteArray.data_extract,Array.toList_extract,List.extract_eq_take_drop,List.drop_take]
theorem Xoh (t:ByteArray)(a:Nat):bs (t.extract a t.size)=(bs t).drop a:=by rw[Xb3,List.take_of_length_le (by rw[Xac];exact zL _)]
theorem Yka (t:ByteArray)(b:Nat):bs (t.extract 0 b)=(bs t).take b:=by rw[Xb3];simp
def Ym9 (l:List Nat)(w:World)(e:Ending)(w':World):Prop:=
 ∃(r:Int) (er:Int),e=.returned (.tuple #[.int .i32 r,.int .i64 (rn l:Int),.int .i64 er])∧(rn l≠0→er=0)∧(rn l=0→er≠0)∧Dr w w'
theorem Xra (s:ByteArray)(w:World)(hs:s.size≤maxLen):Calls prog 186 #[.string s] w (Ym9 (bs s) w):=by
 have M:=Hd (Xke s w hs);unfold maxLen at hs;by_cases h0:s.size=0;·obtain rfl:=Xd9 h0;clear h0 hs M;go_enter func186,ntmps186;go_wp2_with fail;go_ret3;exact⟨0,1,rfl,(fun h=>absurd rfl h),(fun _=>by decide),Dr.refl _⟩
 have p:=Xfa h0;go_enter func186,ntmps186;go_wp2_with fail;refine M.o.mono ?_;rintro e w1 ⟨n,rfl,i,d,f,c⟩;rw[Xac] at i;cases hb:Xb8 (bs s)
 ·have k:=Xj8 hb;have b:=Hd k;clear f k hb M;by_cases z:n=0;·have m:((n:Int)==0)=true:=Xa8 (by omega);go_wp2_with fail;go_ret3;exact⟨0,6,by rw[b.o];rfl,(fun h=>absurd b.o h),(fun _=>by decide),c⟩
  have m:((n:Int)==0)=false:=Xar (by omega);by_cases y:n=s.size;·have l:((n:Int)==(s.size:Int))=true:=Xa8 (by omega);go_wp2_with fail;go_ret3;exact⟨0,23,by rw[b.o];rfl,(fun h=>absurd b.o h),(fun _=>by decide),c⟩
  have l:((n:Int)==(s.size:Int))=false:=Xar (by omega);go_wp2_with fail;go_ret3;exact⟨0,3,by rw[b.o];rfl,(fun h=>absurd b.o h),(fun _=>by decide),c⟩
 obtain rfl:=f hb;have j:=(Xfq hb).2;obtain⟨n,a⟩:=xq (rn (bs s));rw[←a] at i d j⊢;have g:=Hd a;clear f hb M a;go_wp2_with (go_at_call 238;refine(Xvr _ _ (by rw[ByteArray.size_extract];omega) (by rw[ByteArray.size_extract];omega)).mono ?_;rintro e w' ⟨r,rfl,rfl⟩)
 go_ret3;exact⟨r,0,by rw[g.o];rfl,(fun _=>rfl),(fun h=>by rw[g.o] at j;omega),c⟩
def Ynf (l:List Nat)(w:World)(e:Ending)(w':World):Prop:=
 ∃(n:Nat) (er:Int),e=.returned (.tuple #[.int .i64 (n:Int),.int .i64 er])∧(vld l=true→er=0)∧(vld l=false→er≠0)∧Dr w w'
theorem Xl2 (s:ByteArray)(w:World)(hs:s.size≤maxLen):Calls prog 145 #[.string s] w (Ynf (bs s) w):=by
 have j:=hs;have B:=Hd j;clear j;unfold maxLen at hs;go_enter func145,ntmps145;go_wp2_with fail;go_loopg [4] s.size (fun k i wr=>∃n:Nat,n≤s.size∧k=s.size-n∧i=.int .i64 (n:Int)∧Hid (vld (bs s)=vld ((bs s).drop n))∧Dr w wr);exact⟨0,by omega,rfl,rfl,rfl,Dr.refl _⟩;obtain⟨n,C,rfl,rfl,hv,u⟩:=hrel;by_cases b:n<s.size
 ·have l:(s.extract n s.size).size=s.size-n:=by rw[ByteArray.size_extract];omega
  have D:=Hd (Xra (s.extract n s.size) wr (by rw[l];unfold maxLen;omega));have v:=(Xrl ((bs s).drop n)).1;rw[List.length_drop,Xac] at v;clear l;go_wp2_with fail;refine D.o.mono ?_;rintro e w1 ⟨r,x,rfl,d,f,g⟩;rw[Xoh] at d f⊢;obtain⟨m,p⟩:=xq (rn ((bs s).drop n));rw[←p] at v d f⊢;have c:(bs s).drop n≠[]:=by intro e;have:=congrArg List.length e;rw[List.length_drop,Xac] at this;simp at this;omega
  have a:=Xm9 c;rw[←p,List.drop_drop] at a;by_cases z:m=0;·have q:=f z;have E:(x !=0)=true:=Xaq q;have t:=Hd a;have A:=Hd f;have y:=Hd d;clear a p d f c D;go_wp2_with fail;go_ret2;exact⟨n,_,rfl,(fun h=>by rw[hv.o,t.o,z] at h;simp at h),(fun _=>q),u.trans g⟩
  obtain rfl:=d z;have t:=Hd a;clear a p d f c D;go_wp2_with fail;go_roundg (s.size-(n+m));exact⟨n+m,by omega,rfl,by go_num,Hd (by rw[hv.o,t.o];simp[z]),u.trans g⟩;omega
 go_wp2_with fail;go_ret2;exact⟨0,_,rfl,(fun _=>rfl),(fun h=>by rw[hv.o,List.drop_of_length_le (by rw[Xac];omega)] at h;cases h),u⟩
theorem Xvs (s:ByteArray)(w:World)(hs:s.size≤maxLen):Calls prog 136 #[.string s] w fun e w'=>e=.returned (.bool (vld (bs s)))∧Dr w w':=by
 have C:=Hd (Xl2 s w hs);clear hs;go_enter func136,ntmps136;go_wp2_with fail;refine C.o.mono ?_;rintro e w1 ⟨n,f,rfl,b,c,d⟩;cases hv:vld (bs s);·have q:(f==0)=false:=Xar (c hv);have a:=Hd hv;clear b c hv C;go_wp2_with fail;go_ret;exact⟨by rw[a.o];rfl,d⟩
 obtain rfl:=b hv;have a:=Hd hv;clear b c hv C;go_wp2_with fail;go_ret;exact⟨by rw[a.o];rfl,d⟩
def Ygw (l:List Nat):Nat:=if l.length≤1 then l.getD 0 0 else l.getD 0 0%2^(7-l.length)
def vst (l:List Nat)(n:Nat):Nat:=((l.take n).drop 1).foldl (fun r x=>r*64+x%64) (Ygw l)
theorem Xtf (l:List Nat)(n:Nat)(h1:1≤n)(h:n<l.length):vst l (n+1)=vst l n*64+l.getD n 0%64:=by unfold vst;rw[List.take_succ_eq_append_getElem h,List.drop_append_of_le_length (by simp;omega),List.foldl_append];simp[List.getD,List.getElem?_eq_getElem h]
theorem Xq7 (l:List Nat):vst l 1=Ygw l:=by unfold vst;cases l<;>simp
theorem Yj1 (l:List Nat)(h:rn l≠0):cpt l=vst (l.take (rn l)) (rn l):=by
 have a:=(Xrl l).1;unfold cpt vst Ygw;rw[List.take_take,Nat.min_self,List.length_take,Nat.min_eq_left a];have e:(l.take (rn l)).getD 0 0=l.getD 0 0:=by simp only[List.getD_eq_getElem?_getD,List.getElem?_take,qP (show 0<rn l by omega)]
 rw[e]
theorem Yh3 (l:List Nat)(hb:l.getD 0 0<256)(h:1<l.length)(h4:l.length≤4):Ygw l<2^(7-l.length):=by unfold Ygw;rw[qN (by omega)];exact Nat.mod_lt _ (Nat.two_pow_pos _)
theorem Yk5 (l:List Nat)(hb:l.getD 0 0<256)(h1:1<l.length)(h4:l.length≤4):∀n,1≤n→n≤l.length→vst l n<2^(7-l.length)*64^(n-1):=by
 intro n c
 induction n with
 |zero=>omega
 |succ n ih=>
  intro a;by_cases h:n=0;·subst h;rw[Xq7];simpa using Yh3 l hb h1 h4
  have:=ih (by omega) (by omega);rw[Xtf l n (by omega) (by omega)];have e:64^(n+1-1)=64^(n-1)*64:=by rw[←Nat.pow_succ];congr 1;omega
  rw[e,←Nat.mul_assoc];have b:l.getD n 0%64<64:=Nat.mod_lt _ (by decide);omega
theorem Yh1 (l:List Nat)(hb:l.getD 0 0<256)(h1:1<l.length)(h4:l.length≤4)(n:Nat)(hn:1≤n)(hle:n<l.length):vst l n<32768:=by
 have:=Yk5 l hb h1 h4 n hn (by omega);rcases(by omega:l.length=2∨l.length=3∨l.length=4) with h|h|h
 ·rw[h] at this hle;obtain rfl:n=1:=by omega
  simp at this;omega
 ·rw[h] at this hle;rcases(by omega:n=1∨n=2) with rfl|rfl<;>simp at this<;>omega
 rw[h] at this hle;rcases(by omega:n=1∨n=2∨n=3) with rfl|rfl|rfl<;>simp at this<;>omega
theorem Yko (k:Nat)(hk:k≤7)(c:Nat)(hc:c<256):Go.bits .and .i32 (c:Int) ((2:Int)^k-1)=((c%2^k:Nat):Int):=by rw[bits_mask .i32 31 (by decide) wraps_i32 k (by omega) (c:Int) (by omega) (by omega)];simp
theorem Yok (c:Nat)(hc:c<256):Go.bits .and .u8 (c:Int) 63=((c%64:Nat):Int):=by rw[u8_and63 _ (by omega) (by omega)];simp
theorem or6 (r c:Nat)(hr:r<32768)(hc:c<64):Go.bits .or .i32 ((r:Int)*64) (c:Int)=((r*64+c:Nat):Int):=by have:=bits_join .i32 31 (by decide) wraps_i32 6 ((r:Int)*64) (c:Int) (by omega) (by omega) (by omega) (by omega) (by omega) (by omega);rw[this];simp
theorem Xye (s:ByteArray)(w:World)(h0:0<s.size)(hs:s.size≤4):Rx 238 #[.string s] w (.int .i32 ((vst (bs s) s.size:Nat):Int)):=by
 obtain⟨f,e⟩:=xq ((bs s).getD 0 0);have g:f<256:=by rw[e];exact Xbd s 0
 have F:=Yc5 s f e h0;have p:=Xac s;by_cases h1:s.size=1
 ·have R:Hid (vst (bs s) s.size=f):=Hd (by rw[h1,Xq7];unfold Ygw;rw[qP (by omega),e]);have z:decide ((1:Int)<(s.size:Int))=false:=by simp;omega
  clear e p;go_enter func238,ntmps238;go_wp2_with fail;go_loopg [3,4] 3 (fun k r i wr=>r=.int .i32 (f:Int)∧i=.int .i64 1∧w=wr);exact⟨rfl,rfl,rfl⟩;obtain⟨rfl,rfl,rfl⟩:=hrel;go_wp2_with fail;go_ret;exact⟨by rw[R.o];rfl,rfl⟩
 have D:1<s.size:=by omega
 have R:Hid (∀k,k=7-s.size→((Ygw (bs s):Nat):Int)=Go.bits .and .i32 (f:Int) ((2:Int)^k-1)):=Hd (by intro k A;rw[Yko k (by omega) f g];unfold Ygw;rw[qN (by omega),p,←e,A]);have V:Hid (∀n,1≤n→n<s.size→vst (bs s) n<32768):=Hd (fun n a b=>Yh1 (bs s) (by rw[←e];exact g) (by omega) (by omega) n a (by omega));have N:Hid (∀n,1≤n→n<s.size→vst (bs s) (n+1)=vst (bs s) n*64+(bs s).getD n 0%64):=Hd (fun n a b=>Xtf _ n a (by omega));have z:decide ((1:Int)<(s.size:Int))=true:=by simp;omega
 clear e p;have C:=hs;rcases(by omega:s.size=2∨s.size=3∨s.size=4) with h|h|h
 all_goals
  have j:=R.o (7-s.size) rfl;rw[h] at j;simp only[Nat.reduceSub,Int.reducePow,Int.reduceSub] at j;have v:=Hd j;clear j;have L:((s.size:Nat):Int)=_:=congrArg _ h;go_enter func238,ntmps238;go_wp2_with fail;go_loopg [3,4] 3 (fun k r i wr=>∃(n:Nat),1≤n∧n≤s.size∧k=4-n∧i=.int .i64 (n:Int)∧r=.int .i32 ((vst (bs s) n:Nat):Int)∧w=wr);exact⟨1,by omega,by omega,rfl,rfl,by rw[Xq7,v.o],rfl⟩;obtain⟨n,t,B,rfl,rfl,rfl,rfl⟩:=hrel;by_cases b:n<s.size
  ·obtain⟨c,d⟩:=xq ((bs s).getD n 0);have m:c<256:=by rw[d];exact Xbd s n
   have G:∀w,(Instr.index 9 (.string s) (.int .i64 (n:Int))).run prog w=.ok (.int .u8 (c:Int)) w:=fun w=>by rw[Xbj 9 underlying9 s .i64 n n rfl b,d]
   obtain⟨x,l⟩:=xq (vst (bs s) n);have q:x<32768:=by rw[l];exact V.o n t b
   rw[←l];have u:Hid (vst (bs s) (n+1)=x*64+c%64):=Hd (by rw[l,d];exact N.o n t b);have y:=Yok c m;have E:=or6 x (c%64) q (Nat.mod_lt _ (by decide));clear d l h;go_wp2_with fail;go_roundg (4-(n+1));exact⟨n+1,by omega,by omega,rfl,by go_num,by rw[u.o];first|rfl|(congr 1),rfl⟩;omega
  obtain rfl:n=s.size:=by omega
  go_wp2_with fail;go_ret;exact⟨rfl,rfl⟩
end Go.Proofs.YtjolcnopipbkhaaGreatDoor
/- utf8: Decode exactly, control characters, the iterator Runes, Printable. -/
namespace Go.Proofs.YtjolcnopipbkhaaGreatDoor
open Go.Proofs.Tryz
open Go.RowKit Go.Shelf
attribute [local go_sem] Oper.semAt_some
set_option linter.unusedVariables false
set_option maxHeartbeats 100000000
set_option maxRecDepth 100000
def Ym7 (l:List Nat)(w:World)(e:Ending)(w':World):Prop:=
 ∃(r er:Int),e=.returned (.tuple #[.int .i32 r,.int .i64 (rn l:Int),.int .i64 er])∧(rn l≠0→er=0∧r=(cpt l:Int))∧(rn l=0→er≠0)∧Dr w w'
theorem Dr.below {w w':World}(h:Dr w w'):Bw w w':=by obtain⟨q,rfl⟩:=h;exact⟨rfl,rfl,rfl,zL _,fun b hb=>rfl⟩
theorem Dr.size {w w':World}(h:Dr w w'):w'.heap.size=w.heap.size:=by obtain⟨q,rfl⟩:=h;rfl
theorem Xyi (s:ByteArray)(w:World)(hs:s.size≤maxLen):Calls prog 186 #[.string s] w (Ym7 (bs s) w):=by
 have M:=Hd (Xke s w hs);unfold maxLen at hs;by_cases h0:s.size=0;·obtain rfl:=Xd9 h0;clear h0 hs M;go_enter func186,ntmps186;go_wp2_with fail;go_ret3;exact⟨0,1,rfl,(fun h=>absurd rfl h),(fun _=>by decide),Dr.refl _⟩
 have r:=Xfa h0;go_enter func186,ntmps186;go_wp2_with fail;refine M.o.mono ?_;rintro e w1 ⟨n,rfl,k,f,g,c⟩;rw[Xac] at k;cases hb:Xb8 (bs s)
 ·have m:=Xj8 hb;have b:=Hd m;clear g m hb M;by_cases z:n=0;·have q:((n:Int)==0)=true:=Xa8 (by omega);go_wp2_with fail;go_ret3;exact⟨0,6,by rw[b.o];rfl,(fun h=>absurd b.o h),(fun _=>by decide),c⟩
  have q:((n:Int)==0)=false:=Xar (by omega);by_cases y:n=s.size;·have p:((n:Int)==(s.size:Int))=true:=Xa8 (by omega);go_wp2_with fail;go_ret3;exact⟨0,23,by rw[b.o];rfl,(fun h=>absurd b.o h),(fun _=>by decide),c⟩
  have p:((n:Int)==(s.size:Int))=false:=Xar (by omega);go_wp2_with fail;go_ret3;exact⟨0,3,by rw[b.o];rfl,(fun h=>absurd b.o h),(fun _=>by decide),c⟩
 obtain rfl:=g hb;have l:=(Xfq hb).2;have d:=Hd (Yj1 (bs s) (by omega));obtain⟨n,a⟩:=xq (rn (bs s));rw[←a] at k f l d⊢;have j:(s.extract 0 n).size=n:=by rw[ByteArray.size_extract];omega
 have U:Hid (∀w,Rx 238 #[.string (s.extract 0 n)] w (.int .i32 ((cpt (bs s):Nat):Int))):=Hd (fun w=>(Xye (s.extract 0 n) w (by omega) (by omega)).mono fun e w' h=>⟨by rw[h.1,d.o,Yka,j],h.2⟩);have i:=Hd a;clear g hb M a j d;go_wp2_with (go_at_call 238;refine(U.o _).mono ?_;rintro e w' ⟨rfl,rfl⟩)
 go_ret3;exact⟨_,0,by rw[i.o];rfl,(fun _=>⟨rfl,rfl⟩),(fun h=>by rw[i.o] at l;omega),c⟩
theorem Ydj (w:World)(n:Nat):Rx 138 #[.int .i32 (n:Int)] w (.bool (Xu8 n)):=by
 obtain⟨b,a⟩:=xq (Xu8 n);rw[←a];have c:=Hd a;clear a;rcases(by omega:n<32∨(32≤n∧n<127)∨(127≤n∧n≤159)∨(n=8232)∨(n=8233)∨(159<n∧n≠8232∧n≠8233)) with h|⟨h,h2⟩|⟨h,h2⟩|rfl|rfl|⟨h,h2,h3⟩
 all_goals
  try have d:((n:Int)==8232)=false:=Xar (by omega)
  try have e:((n:Int)==8233)=false:=Xar (by omega)
  go_enter func138,ntmps138;go_wp2_with fail;go_ret;exact⟨Xa5 (by rw[c.o,Bool.eq_iff_iff];simp[Xu8];try omega),rfl⟩
def KeepB (B:Nat)(A C:World):Prop:=C.heap[B]?=A.heap[B]?
theorem KeepB.cell {B:Nat}{A C:World}(h:KeepB B A C):C.cell? ⟨B,0,none⟩=A.cell? ⟨B,0,none⟩:=by unfold World.cell?;simp only;rw[show C.heap[B]?=A.heap[B]? from h]
def rnV (x:Nat×Nat):Array Value:=#[.int .i64 (x.1:Int),.int .i32 (x.2:Int)]
theorem Xkx (w:World)(q:Nat):w.grownBy (w.drewN q) none:=⟨rfl,rfl,rfl,zL _,fun _ _ _=>rfl⟩
theorem Yio (n:Nat)(hn:1≤n)(l Bs B:Nat)(s:ByteArray)(hs:s.size≤maxLen)(J Jx:List (Nat×Nat)→World→Prop)(hJa:AbidesFrom B J) (hY:∀a x W,J a W→a.length<s.size+1→YieldAt Fence.wide (n-1) prog l (rnV x) W fun e W'=>
     (e=.returned (.bool true)∧J (a++[x]) W'∧KeepB Bs W W')∨(e=.returned (.bool false)∧Jx (a++[x]) W'))
    (W:World) (hBs:W.cell? ⟨Bs,0,none⟩=some (.string s)) (h0:J [] W):
    CallsIn Fence.wide n prog 185 #[.func (.yield l) #[] #[],.pointer (some ⟨Bs,0,none⟩)] W fun e W'=>(∃v,e=.returned v)∧
     ((∃ys:List (Nat×Nat),ys=rns (bs s)∧J ys W')∨(∃a:List (Nat×Nat),(∃q,a++q=rns (bs s))∧Jx a W')):=by
 unfold maxLen at hs;refine callsIn_of_wp func185 rfl trivial ?_ rfl;simp only[ntmps185,List.size_toArray,List.length_cons,List.length_nil,Nat.reduceAdd,Nat.reduceSub,Array.replicate_succ,Array.replicate_zero,List.push_toArray,List.append_toArray,List.nil_append,List.cons_append];gi_wp2
 gi_loopw [3] (fun i wr=>∃(k:Nat) (a:List (Nat×Nat)),k≤s.size∧i=.int .i64 (k:Int)∧Hid (rns (bs s)=a++rsN ((bs s).drop k).length k ((bs s).drop k))∧a.length≤k∧wr.cell? ⟨Bs,0,none⟩=some (.string s)∧J a wr)
  (fun i wr=>s.size-(intOf i).toNat)
 case atStart=>exact⟨0,[],by omega,rfl,rfl,Nat.zero_le _,hBs,h0⟩
 case round=>
  obtain⟨k,a,S,rfl,b,Q,I,A⟩:=hrel;by_cases h1:k<s.size
  ·have w:(s.extract k s.size).size=s.size-k:=by rw[ByteArray.size_extract];omega
   have D:=Hd (Xyi (s.extract k s.size) wr (by rw[w];unfold maxLen;omega));have K:=(Xrl ((bs s).drop k)).1;rw[List.length_drop,Xac] at K;clear w;gi_wp2_with fail;refine⟨trivial,?_⟩;refine(callsIn_wide.2 D.o).mono ?_;rintro e w1 ⟨r,O,rfl,j,t,f⟩;rw[Xoh] at j t⊢;have G:J a w1:=by obtain⟨q,rfl⟩:=f;exact hJa _ _ _ _ A (Xkx _ _) (fun r e=>by cases e)
   have M:w1.cell? ⟨Bs,0,none⟩=some (.string s):=by obtain⟨q,rfl⟩:=f;exact I
   obtain⟨m,p⟩:=xq (rn ((bs s).drop k));obtain⟨c,d⟩:=xq (cpt ((bs s).drop k));rw[←p] at K j t⊢;rw[←d] at j;clear A I D f;by_cases z:m=0;·have q:=t z;have T:(O !=0)=true:=Xaq q;have g:Hid (rns (bs s)=a):=Hd (by rw[b.o,Xno _ _ _ (by rw[←p];exact z),List.append_nil]);clear p d j t;gi_wp2;refine⟨fun _ h=>(by cases h),?_⟩;gi_wp2;refine zP (results_none rfl _ _ _) rfl ?_;exact⟨⟨_,rfl⟩,.inl ⟨a,g.o.symm,G⟩⟩
   obtain⟨rfl,rfl⟩:=j z;have g:Hid (rns (bs s)=(a++[(k,c)])++rsN ((bs s).drop (k+m)).length (k+m) ((bs s).drop (k+m))):=Hd (by rw[b.o,Xnp _ _ _ (by rw[←p];exact z) (zL _),←p,←d,List.drop_drop];simp);clear p d j t;obtain⟨R,tmps,y,H,L,P⟩:=hY a (k,c) w1 G (by omega);unfold rnV at L;dsimp only at L;gi_wp2;refine P.mono ?_;rintro e N (⟨rfl,C,F⟩|⟨rfl,u⟩)
   ·have E:N.cell? ⟨Bs,0,none⟩=some (.string s):=F.cell.trans M;gi_wp2
    go_roundw
    case rel=>exact⟨k+m,a++[(k,c)],by omega,by go_num,g,by simp;omega,E,C⟩
    case measure=>simp[intOf];omega
   gi_wp2;refine zP (results_none rfl _ _ _) rfl ?_;exact⟨⟨_,rfl⟩,.inr ⟨_,⟨_,g.o.symm⟩,u⟩⟩
  obtain rfl:k=s.size:=by omega
  have g:Hid (rns (bs s)=a):=Hd (by rw[b.o,List.drop_of_length_le (by rw[Xac];exact zL _)];simp[rsN]);gi_wp2;go_end0;exact⟨⟨_,rfl⟩,.inl ⟨a,g.o.symm,A⟩⟩
end Go.Proofs.YtjolcnopipbkhaaGreatDoor
/- The checker of a content: an error in a box. -/
namespace Go.Proofs.YtjolcnopipbkhaaGreatDoor
open Go.Proofs.Tryz
open Go.RowKit Go.Maps
set_option linter.unusedVariables false
set_option maxHeartbeats 100000000
set_option maxRecDepth 100000
def Ck (w:World)(b n:Nat):Prop:=w.heap[b]?=some (.cells #[.int .i64 (n:Int)] 73 (0,0))
structure Fr1 (b:Nat) (w w':World):Prop where
 os:w'.os=w.os
 tape:w'.tape=w.tape
 output:w'.output=w.output
 size:w.heap.size≤w'.heap.size
 other:∀k,k<w.heap.size→k≠b→w'.heap[k]?=w.heap[k]?
theorem Fr1.refl (b:Nat)(w:World):Fr1 b w w:=⟨rfl,rfl,rfl,zL _,fun _ _ _=>rfl⟩
theorem Fr1.of_below {b:Nat}{w w':World}(h:Bw w w'):Fr1 b w w':=⟨h.os,h.tape,h.output,h.size,fun k hk _=>h.block k hk⟩
theorem Fr1.trans {b:Nat}{u v w:World}(h:Fr1 b u v)(h':Fr1 b v w):Fr1 b u w:=
 ⟨h'.os.trans h.os,h'.tape.trans h.tape,h'.output.trans h.output,Nat.le_trans h.size h'.size,fun k hk hne=>(h'.other k (Nat.lt_of_lt_of_le hk h.size) hne).trans (h.other k hk hne)⟩
theorem Fr1.below {b B:Nat}{w w':World}(h:Fr1 b w w')(hB:B≤w.heap.size)(hb:B≤b):Below B w w':=
 ⟨h.os,h.tape,h.output,h.size,fun k hk=>h.other k (Nat.lt_of_lt_of_le hk hB) (by omega)⟩
theorem Fr1.set {b n:Nat}{w:World}(h:Ck w b n)(u:Value):Fr1 b w (w.setCell ⟨b,0,none⟩ u):=
 ⟨rfl,rfl,rfl,by simp[World.setCell],fun k _ hne=>Below.heap_setCell _ _ _ _ hne⟩
theorem Ck.lt {w:World}{b n:Nat}(h:Ck w b n):b<w.heap.size:=zY h
theorem Ck.below {w w':World}{b n:Nat}(h:Ck w b n)(hb:Bw w w'):Ck w' b n:=(hb.block b h.lt).trans h
theorem Ck.cell {w:World}{b n:Nat}(h:Ck w b n):w.cell? ⟨b,0,none⟩=some (.int .i64 (n:Int)):=cell_of_row w b 0 _ _ _ h
theorem Ck.free {w:World}{b n:Nat}(h:Ck w b n):w.frozen? ⟨b,0,none⟩=false:=by unfold Ck at h;simp[World.frozen?,h]
theorem Ck.set {w:World}{b n:Nat}(h:Ck w b n)(m:Nat):Ck (w.setCell ⟨b,0,none⟩ (.int .i64 (m:Int))) b m:=
 Xez h 0 _
def Xb7 (w:World)(b n:Nat)(e:Ending)(w':World):Prop:=(∃v,e=.returned v)∧Ck w' b n∧Fr1 b w w'
theorem Xbs (w:World)(b n:Nat)(h:Ck w b n)(bad:Bool)(e:Nat):Calls prog 44 #[.pointer (some ⟨b,0,none⟩),.bool bad,.int .i64 (e:Int)] w (Xb7 w b (fe n (eIf bad e))):=by
 have c:=h.cell;have d:=h.free;have H:=Hd h;clear h;by_cases h0:n=0
 ·subst h0;cases bad;·go_enter func44,ntmps44;go_wp2_with fail;go_end0;exact⟨⟨_,rfl⟩,H.o,Fr1.refl _ _⟩
  go_enter func44,ntmps44;go_wp2_with fail;go_end0;exact⟨⟨_,rfl⟩,H.o.set e,Fr1.set H.o _⟩
 have f:((n:Int)==0)=false:=Xar (by omega);have a:Hid (fe n (eIf bad e)=n):=Hd (by unfold fe;rw[qP h0]);clear h0;go_enter func44,ntmps44;go_wp2_with fail;go_end0;exact⟨⟨_,rfl⟩,by rw[a.o];exact H.o,Fr1.refl _ _⟩
theorem Xdp (w:World)(b n:Nat)(h:Ck w b n)(e:Nat):Calls prog 33 #[.pointer (some ⟨b,0,none⟩),.int .i64 (e:Int)] w (Xb7 w b (fe n e)):=by have W:=Hd (Xbs w b n h true e);clear h;go_enter func33,ntmps33;go_wp2_with fail;refine W.o.mono ?_;rintro e w' ⟨⟨v,rfl⟩,a,c⟩;have d:=Hd a;have f:=Hd c;clear a c W;go_wp2_with fail;go_end0;exact⟨⟨_,rfl⟩,d.o,f.o⟩
theorem Ylg:∀m:Nat,m<32→1≤m→bits .and .u64 (IntKind.u64.wrap (-(m:Int))) 31=((32-m:Nat):Int):=by decide+kernel
theorem Ylf:∀m:Nat,m<32→1≤m→IntKind.u64.wrap (32-((32-m:Nat):Int))=(m:Int):=by decide+kernel
theorem Xa7 {x m:Nat}(hx:x<4294967296):rot x m<4294967296:=by unfold rot Xdq;exact Nat.or_lt_two_pow (n:=32) (by omega) (Nat.lt_of_le_of_lt (Nat.div_le_self _ _) (by omega))
theorem Ydy (w:World)(x m:Nat)(hx:x<4294967296)(hm:1≤m)(hm2:m<32):Rx 236 #[.int .u32 (x:Int),.int .i64 (-(m:Int))] w (.int .u32 ((rot x m:Nat):Int)):=by
 have e:=Ylg m hm2 hm;have d:=Ylf m hm2 hm;obtain⟨r,a⟩:=xq (32-m);rw[←a] at e d;have g:r≤31:=by omega
 have b:=Hd a;clear a;go_enter func236,ntmps236;go_wp2_with fail;go_ret;refine⟨?_,rfl⟩;have c:((x:Int)*2^r%4294967296)=((x*2^r%4294967296:Nat):Int):=by rw[Int.natCast_emod,Int.natCast_mul,Int.natCast_pow];rfl
 have f:((x:Int)/2^m)=((x/2^m:Nat):Int):=by rw[Int.natCast_ediv,Int.natCast_pow];rfl
 rw[c,f,u32_or_nat _ _ (by omega) (Nat.lt_of_le_of_lt (Nat.div_le_self _ _) hx),b.o];rfl
theorem Xh4 (w:World)(x:Nat)(hx:x<4294967296)(m:Nat)(hm:1≤m)(hm2:m<32)(k:Int)(hk:k=(m:Int)):Rx 182 #[.int .u32 (x:Int),.int .i64 k] w (.int .u32 ((rot x m:Nat):Int)):=by
 subst hk;have R:=Hd (Ydy w x m hx hm hm2);have a:(m:Int)<32:=by omega
 go_enter func182,ntmps182;go_wp2_with fail;refine R.o.mono ?_;rintro e w' ⟨rfl,rfl⟩;clear R;go_wp2_with fail;go_ret;exact⟨rfl,rfl⟩
def wC (v:W8):Array Value:=#[.int .u32 (v.a:Int),.int .u32 (v.b:Int),.int .u32 (v.c:Int),.int .u32 (v.d:Int),.int .u32 (v.e:Int),.int .u32 (v.f:Int),.int .u32 (v.g:Int),.int .u32 (v.i:Int)]
def wZ:Array Value:=#[.int .u32 0,.int .u32 0,.int .u32 0,.int .u32 0,.int .u32 0,.int .u32 0,.int .u32 0,.int .u32 0]
structure W8.Ok (v:W8):Prop where
 a:v.a<4294967296
 b:v.b<4294967296
 c:v.c<4294967296
 d:v.d<4294967296
 e:v.e<4294967296
 f:v.f<4294967296
 g:v.g<4294967296
 i:v.i<4294967296
theorem Xc9:(prog.info? 191).map (·.size)=some 8:=by kernel_rfl
theorem Yfc (w:World):zJ 132 #[] w (.agg (wC sh0)):=by go_enter func132,ntmps132;go_wp2_with fail;exact zP (v:=.agg (wC sh0)) (by simp[results,results132,go_sem];rfl) rfl ⟨rfl,(zR _ _).alloc (zL _) _⟩
theorem Yoo {w:World}{b T:Nat}(h:w.heap[b]?=some (.cells wZ T (0,0)))(u0 u1 u2 u3 u4 u5 u6 u7:Value):((((((((w.setCell ⟨b,0,none⟩ u0).setCell ⟨b,1,none⟩ u1).setCell ⟨b,2,none⟩ u2).setCell ⟨b,3,none⟩ u3).setCell ⟨b,4,none⟩ u4).setCell ⟨b,5,none⟩ u5).setCell ⟨b,6,none⟩ u6).setCell ⟨b,7,none⟩ u7).heap[b]?=some (.cells #[u0,u1,u2,u3,u4,u5,u6,u7] T (0,0)):=by have a:=Xez h 0 u0;have c:=Xez a 1 u1;have d:=Xez c 2 u2;have e:=Xez d 3 u3;have f:=Xez e 4 u4;have g:=Xez f 5 u5;have i:=Xez g 6 u6;have j:=Xez i 7 u7;simpa [wZ] using j
theorem Xm0 {B b:Nat}{w0 w:World}(h:Below B w0 w)(hb:B≤b)(u0 u1 u2 u3 u4 u5 u6 u7:Value):Below B w0 ((((((((w.setCell ⟨b,0,none⟩ u0).setCell ⟨b,1,none⟩ u1).setCell ⟨b,2,none⟩ u2).setCell ⟨b,3,none⟩ u3).setCell ⟨b,4,none⟩ u4).setCell ⟨b,5,none⟩ u5).setCell ⟨b,6,none⟩ u6).setCell ⟨b,7,none⟩ u7):=((((((((h.setCell hb _).setCell hb _).setCell hb _).setCell hb _).setCell hb _).setCell hb _).setCell hb _).setCell hb _)
theorem Xyj (x:Nat)(hx:x<4294967296):bits .xor .u32 (if IntKind.u32.signed=true then -1 else IntKind.u32.max) (x:Int)=((Xr0 x:Nat):Int):=by show IntKind.u32.wrap ((BitVec.ofInt 32 4294967295^^^BitVec.ofInt 32 (x:Int)).toNat:Int)=_;rw[show BitVec.ofInt 32 4294967295=BitVec.allOnes 32 by decide,BitVec.allOnes_xor,BitVec.toNat_not,ofInt_u32 x hx,IntKind.wrap_u32'];unfold Xr0;omega
theorem Xdf (a b:Nat):((Xba a b:Nat):Int)=((a:Int)+(b:Int))%4294967296:=by unfold Xba;omega
theorem Xfd {a b:Nat}(h:a<4294967296):a&&&b<4294967296:=Nat.lt_of_le_of_lt Nat.and_le_left h
theorem Xc7 {a b:Nat}(h:a<4294967296)(h2:b<4294967296):a^^^b<4294967296:=Nat.xor_lt_two_pow (n:=32) h h2
theorem not_lt (a:Nat):Xr0 a<4294967296:=by unfold Xr0;omega
theorem Xc2 (a b:Nat):Xba a b<4294967296:=Nat.mod_lt _ (by omega)
theorem Yg7 {v:W8}(hv:v.Ok)(k t:Nat):(rnd v k t).Ok:=⟨Xc2 _ _,hv.a,hv.b,hv.c,Xc2 _ _,hv.e,hv.f,hv.g⟩
theorem Xzw (x y:W8):(Xgz x y).Ok:=⟨Xc2 _ _,Xc2 _ _,Xc2 _ _,Xc2 _ _,Xc2 _ _,Xc2 _ _,Xc2 _ _,Xc2 _ _⟩
theorem Xty:sh0.Ok:=⟨by decide,by decide,by decide,by decide,by decide,by decide,by decide,by decide⟩
theorem Yov {v:W8}(hv:v.Ok)(k t s1:Nat)(hs:s1=rot v.e 6^^^rot v.e 11^^^rot v.e 25):(((v.i:Int)+(s1:Int)+bits .xor .u32 (bits .and .u32 (v.e:Int) (v.f:Int)) (bits .and .u32 (bits .xor .u32 (if IntKind.u32.signed=true then -1 else IntKind.u32.max) (v.e:Int)) (v.g:Int))+(k:Int))%4294967296+(t:Int))%4294967296=((Yd0 v k t:Nat):Int):=by unfold Yd0;rw[Xdf,Xdf,Xdf,Xdf,←hs,Xyj _ hv.e,u32_and_nat _ _ hv.e hv.f,u32_and_nat _ _ (not_lt _) hv.g,u32_xor_nat _ _ (Xfd hv.e) (Xfd (not_lt _))];generalize (((v.e&&&v.f^^^Xr0 v.e&&&v.g:Nat)):Int)=X;omega
theorem You {v:W8}(hv:v.Ok)(s0:Nat)(hs:s0=rot v.a 2^^^rot v.a 13^^^rot v.a 22):((s0:Int)+bits .xor .u32 (bits .xor .u32 (bits .and .u32 (v.a:Int) (v.b:Int)) (bits .and .u32 (v.a:Int) (v.c:Int))) (bits .and .u32 (v.b:Int) (v.c:Int)))%4294967296=((Yg8 v:Nat):Int):=by unfold Yg8;rw[Xdf,←hs,u32_and_nat _ _ hv.a hv.b,u32_and_nat _ _ hv.a hv.c,u32_and_nat _ _ hv.b hv.c,u32_xor_nat _ _ (Xfd hv.a) (Xfd hv.a),u32_xor_nat _ _ (Xc7 (Xfd hv.a) (Xfd hv.a)) (Xfd hv.b)]
theorem Xpf (w:World)(v:W8)(k t:Nat)(hv:v.Ok)(hk:k<4294967296)(ht:t<4294967296):zJ 183 #[.agg (wC v),.int .u32 (k:Int),.int .u32 (t:Int)] w (.agg (wC (rnd v k t))):=by
 have z:=fun(m:Nat) (hm:1≤m) (hm2:m<32) (k:Int) (hk:k=(m:Int)) (w:World)=>(Xh4 w v.a hv.a m hm hm2 k hk).mono (fun _ _ h=>(⟨h.1,h.2.symm⟩:_∧_));have A:=fun(m:Nat) (hm:1≤m) (hm2:m<32) (k:Int) (hk:k=(m:Int)) (w:World)=>(Xh4 w v.e hv.e m hm hm2 k hk).mono (fun _ _ h=>(⟨h.1,h.2.symm⟩:_∧_));have E:=Hd (z 2 (by decide) (by decide) 2 rfl);have F:=Hd (z 13 (by decide) (by decide) 13 rfl);have G:=Hd (z 22 (by decide) (by decide) 22 rfl);have H:=Hd (A 6 (by decide) (by decide) 6 rfl);have I:=Hd (A 11 (by decide) (by decide) 11 rfl);have J:=Hd (A 25 (by decide) (by decide) 25 rfl);have D:=Hd hv;obtain⟨s0,hs0⟩:=xq (rot v.a 2^^^rot v.a 13^^^rot v.a 22);obtain⟨s1,r⟩:=xq (rot v.e 6^^^rot v.e 11^^^rot v.e 25);have l0:s0<4294967296:=by rw[hs0];exact Nat.xor_lt_two_pow (n:=32) (Nat.xor_lt_two_pow (n:=32) (Xa7 hv.a) (Xa7 hv.a)) (Xa7 hv.a)
 have l1:s1<4294967296:=by rw[r];exact Nat.xor_lt_two_pow (n:=32) (Nat.xor_lt_two_pow (n:=32) (Xa7 hv.e) (Xa7 hv.e)) (Xa7 hv.e)
 have K:Hid (bits .xor .u32 (bits .xor .u32 ((rot v.a 2:Nat):Int) ((rot v.a 13:Nat):Int)) ((rot v.a 22:Nat):Int)=(s0:Int)):=Hd (by rw[u32_xor_nat _ _ (Xa7 hv.a) (Xa7 hv.a),u32_xor_nat _ _ (Nat.xor_lt_two_pow (n:=32) (Xa7 hv.a) (Xa7 hv.a)) (Xa7 hv.a),hs0]);have L:Hid (bits .xor .u32 (bits .xor .u32 ((rot v.e 6:Nat):Int) ((rot v.e 11:Nat):Int)) ((rot v.e 25:Nat):Int)=(s1:Int)):=Hd (by rw[u32_xor_nat _ _ (Xa7 hv.e) (Xa7 hv.e),u32_xor_nat _ _ (Nat.xor_lt_two_pow (n:=32) (Xa7 hv.e) (Xa7 hv.e)) (Xa7 hv.e),r]);have x:=Hd hs0;have y:=Hd r;clear z A hv hs0 r;unfold wC;go_enter func183,ntmps183;go_wp2_with fail;go_quiet ((go_at_call 182;first|with_reducible exact Calls.quiet_of_same (E.o _)|with_reducible exact Calls.quiet_of_same (F.o _)|with_reducible exact Calls.quiet_of_same (G.o _)));rw[K.o];clear E F G K;obtain⟨w0,l⟩:=xq (((w.alloc (.cells (wC v) 191)).alloc (.cells wZ 191)).drewN nq);have q:w0.heap[w.heap.size]?=some (.cells (wC v) 191 (0,0)):=by rw[l];exact(((zR _ (w.alloc (.cells (wC v) 191))).alloc (zL _) (.cells wZ 191)).block w.heap.size (by simp)).trans (zN w _)
 have j:w0.heap[w.heap.size+1]?=some (.cells wZ 191 (0,0)):=by rw[l];have:=zN (w.alloc (.cells (wC v) 191)) (.cells wZ 191);rw[World.size_alloc] at this;exact this
 have C:Hid (Bw w w0):=Hd (by rw[l];exact(((zR _ _).alloc (zL _) _).alloc (by simp) _).trans ((Dr.below ⟨nq,rfl⟩).mono (by simp;omega)));have p:=l;unfold wC wZ at p;rw[←p];have P:w0.cell? ⟨w.heap.size,0,none⟩=some (.int .u32 (v.a:Int)):=cell_of_row w0 _ 0 _ _ _ q;have Q:w0.cell? ⟨w.heap.size,1,none⟩=some (.int .u32 (v.b:Int)):=cell_of_row w0 _ 1 _ _ _ q;have S:w0.cell? ⟨w.heap.size,2,none⟩=some (.int .u32 (v.c:Int)):=cell_of_row w0 _ 2 _ _ _ q;have V:w0.cell? ⟨w.heap.size,3,none⟩=some (.int .u32 (v.d:Int)):=cell_of_row w0 _ 3 _ _ _ q;have W:w0.cell? ⟨w.heap.size,4,none⟩=some (.int .u32 (v.e:Int)):=cell_of_row w0 _ 4 _ _ _ q;have X:w0.cell? ⟨w.heap.size,5,none⟩=some (.int .u32 (v.f:Int)):=cell_of_row w0 _ 5 _ _ _ q;have Y:w0.cell? ⟨w.heap.size,6,none⟩=some (.int .u32 (v.g:Int)):=cell_of_row w0 _ 6 _ _ _ q;have Z:w0.cell? ⟨w.heap.size,7,none⟩=some (.int .u32 (v.i:Int)):=cell_of_row w0 _ 7 _ _ _ q;have d0:w0.cell? ⟨w.heap.size+1,0,none⟩=some (.int .u32 0):=cell_of_row w0 _ 0 _ _ _ j;have e0:w0.frozen? ⟨w.heap.size+1,0,none⟩=false:=Xby j 0;have d1:w0.cell? ⟨w.heap.size+1,1,none⟩=some (.int .u32 0):=cell_of_row w0 _ 1 _ _ _ j;have e1:w0.frozen? ⟨w.heap.size+1,1,none⟩=false:=Xby j 1;have d2:w0.cell? ⟨w.heap.size+1,2,none⟩=some (.int .u32 0):=cell_of_row w0 _ 2 _ _ _ j;have e2:w0.frozen? ⟨w.heap.size+1,2,none⟩=false:=Xby j 2;have d3:w0.cell? ⟨w.heap.size+1,3,none⟩=some (.int .u32 0):=cell_of_row w0 _ 3 _ _ _ j;have e3:w0.frozen? ⟨w.heap.size+1,3,none⟩=false:=Xby j 3;have d4:w0.cell? ⟨w.heap.size+1,4,none⟩=some (.int .u32 0):=cell_of_row w0 _ 4 _ _ _ j;have e4:w0.frozen? ⟨w.heap.size+1,4,none⟩=false:=Xby j 4;have d5:w0.cell? ⟨w.heap.size+1,5,none⟩=some (.int .u32 0):=cell_of_row w0 _ 5 _ _ _ j;have e5:w0.frozen? ⟨w.heap.size+1,5,none⟩=false:=Xby j 5;have d6:w0.cell? ⟨w.heap.size+1,6,none⟩=some (.int .u32 0):=cell_of_row w0 _ 6 _ _ _ j;have e6:w0.frozen? ⟨w.heap.size+1,6,none⟩=false:=Xby j 6;have d7:w0.cell? ⟨w.heap.size+1,7,none⟩=some (.int .u32 0):=cell_of_row w0 _ 7 _ _ _ j;have e7:w0.frozen? ⟨w.heap.size+1,7,none⟩=false:=Xby j 7;have N:Hid (w0.heap[w.heap.size+1]?=some (.cells wZ 191 (0,0))):=Hd j;clear l p q j;go_wp2_with fail;go_quiet ((go_at_call 182;first|with_reducible exact Calls.quiet_of_same (H.o _)|with_reducible exact Calls.quiet_of_same (I.o _)|with_reducible exact Calls.quiet_of_same (J.o _)));rw[L.o];clear H I J L;have T:=Hd (Yov D.o k t s1 y.o);have U:=Hd (You D.o s0 x.o);have B:Hid (#[Value.int .u32 (((Yd0 v k t:Nat):Int)+((Yg8 v:Nat):Int)),Value.int .u32 (v.a:Int)]=#[Value.int .u32 (((Yd0 v k t:Nat):Int)+((Yg8 v:Nat):Int)),Value.int .u32 (v.a:Int)]):=Hd rfl;go_upto_region 5 with fail;rw[T.o,U.o];obtain⟨M,s⟩:=xq (Yd0 v k t);obtain⟨O,u⟩:=xq (Yg8 v);have R:Hid (wC (rnd v k t)=#[.int .u32 (((M:Int)+(O:Int))%4294967296),.int .u32 (v.a:Int),.int .u32 (v.b:Int),.int .u32 (v.c:Int),.int .u32 (((v.d:Int)+(M:Int))%4294967296),.int .u32 (v.e:Int),.int .u32 (v.f:Int),.int .u32 (v.g:Int)]):=Hd (by unfold wC rnd;simp only[Xdf];rw[s,u]);rw[←s,←u];clear T U B s u x y;go_wp2_with fail;exact zP (results_cell_row results183 _ _ (w.heap.size+1) _ _ _ _ rfl (Yoo (w:=w0.drewN nq) N.o _ _ _ _ _ _ _ _) underlying191 rfl Xc9) rfl ⟨(by have:=R.o;unfold wC at this;rw[this]),Xm0 (C.o.trans ((Dr.below ⟨nq,rfl⟩).mono C.o.size)) (Nat.le_succ _) _ _ _ _ _ _ _ _⟩
def wA (ws:List Nat):Array Value:=(ws.map fun x=>Value.int .u32 ((x:Nat):Int)).toArray
theorem Xb4 (ws:List Nat):(wA ws).size=ws.length:=by simp[wA]
theorem Yk4 (ws:List Nat)(q x:Nat):(wA ws).setIfInBounds q (.int .u32 ((x:Nat):Int))=wA (ws.set q x):=by simp[wA,List.map_set]
theorem Xox (ws:List Nat):(wA ws).all (·.oneCell')=true:=by rw[Array.all_eq_true'];intro x a;unfold wA at a;rw[List.mem_toArray,List.mem_map] at a;obtain⟨y,_,rfl⟩:=a;rfl
structure L16 (ws:List Nat):Prop where
 len:ws.length=16
 lt:∀x∈ws,x<4294967296
theorem L16.at {ws:List Nat}(h:L16 ws)(q:Nat):ws.getD q 0<4294967296:=by
 by_cases hq:q<ws.length;·rw[List.getD_eq_getElem?_getD,List.getElem?_eq_getElem hq,Option.getD_some];exact h.lt _ (zG hq)
 rw[List.getD_eq_getElem?_getD,List.getElem?_eq_none (by omega)];decide
theorem L16.set {ws:List Nat}(h:L16 ws)(q:Nat){x:Nat}(hx:x<4294967296):L16 (ws.set q x):=⟨by simp[h.len],fun y a=>by
 rcases List.mem_or_eq_of_mem_set a with a|rfl;·exact h.lt _ a
 exact hx⟩
theorem Ynu:L16 (List.replicate 16 0):=⟨by simp,fun x hx=>by rw[List.mem_replicate] at hx;omega⟩
def WB (w:World)(b:Nat)(T:TypeId)(ws:List Nat):Prop:=w.heap[b]?=some (.cells (wA ws) T (0,0))
theorem WB.lt {w:World}{b:Nat}{T:TypeId}{ws:List Nat}(h:WB w b T ws):b<w.heap.size:=zY h
theorem WB.cell {w:World}{b:Nat}{T:TypeId}{ws:List Nat}(h:WB w b T ws){q:Nat}(hq:q<ws.length):w.cell? ⟨b,q,none⟩=some (.int .u32 ((ws.getD q 0:Nat):Int)):=by rw[cell_of_row w b q _ _ _ h];simp[wA,List.getD,hq]
theorem WB.set {w:World}{b:Nat}{T:TypeId}{ws:List Nat}(h:WB w b T ws)(q x:Nat):WB (w.setCell ⟨b,q,none⟩ (.int .u32 ((x:Nat):Int))) b T (ws.set q x):=by have:=Xez h q (.int .u32 ((x:Nat):Int));rw[Yk4] at this;exact this
theorem WB.below {w w':World}{b:Nat}{T:TypeId}{ws:List Nat}(h:WB w b T ws)(hb:Bw w w'):WB w' b T ws:=(hb.block b h.lt).trans h
theorem Xne:(prog.info? 196).map (·.size)=some 16:=by kernel_rfl
theorem Xts:(prog.info? 184).map (·.size)=some 64:=by kernel_rfl
theorem WB.load {w:World}{b:Nat}{ws:List Nat}(h:WB w b 196 ws)(hl:L16 ws):Ld 196 ⟨b,0,none⟩ w (.agg (wA ws)):=
 run_loadVar_row w b _ 196 _ _ _ h underlying196 rfl (by rw[Xb4,hl.len];exact Xne)
theorem Yjl {l:List Nat}(hl:l.length=64)(j:Nat)(hj:j<64)(c:Nat)(hc:c=l.getD j 0)(w:World):(Instr.index 184 (.agg (idA l)) (.int .i64 (j:Int))).run prog w=.ok (.int .u8 (c:Int)) w:=by
 have hi:(0:Int)≤(j:Int)∧(j:Int)<64:=by omega
 have a:j<l.length:=by omega
 have e:(idA l)[j]?=some (U c):=by rw[hc];unfold idA;simp[List.getD,a]
 simp[Instr.index,run_underlying underlying184,asIntOf,hi,go_sem];rw[qP hj,e];rfl
theorem Yag {b ws:List Nat}(hb:∀x∈b,x<256)(h:L16 ws)(i:Nat):L16 (Xp1 b ws i):=by
 refine h.set _ ?_;have a:Xdq (ws.getD (i/4) 0) 8<2^32:=Nat.mod_lt _ (by decide);have c:b.getD i 0<2^32:=by
  by_cases hq:i<b.length;·rw[List.getD_eq_getElem?_getD,List.getElem?_eq_getElem hq,Option.getD_some];have:=hb _ (zG hq);omega
  rw[List.getD_eq_getElem?_getD,List.getElem?_eq_none (by omega)];decide
 exact Nat.or_lt_two_pow a c
theorem Yah {b:List Nat}(hb:∀x∈b,x<256)(n:Nat):L16 (Xx2 b n):=by
 induction n with
 |zero=>exact Ynu
 |succ n ih=>rw[Xkj];exact Yag hb ih n
structure B64 (l:List Nat):Prop where
 len:l.length=64
 lt:∀x∈l,x<256
theorem Ye3 (w:World){l:List Nat}(hl:B64 l):zJ 134 #[.agg (idA l)] w (.agg (wA (ldF l))):=by
 obtain⟨cs,b⟩:=xq (idA l);obtain⟨p,T⟩:=xq w.heap.size;have A:=Hd hl;have HP:=Hd T;have z:=Hd b;obtain⟨r,e⟩:=xq (wA (List.replicate 16 0));have X:Hid (r=#[.int .u32 0,.int .u32 0,.int .u32 0,.int .u32 0,.int .u32 0,.int .u32 0,.int .u32 0,.int .u32 0,.int .u32 0,.int .u32 0,.int .u32 0,.int .u32 0,.int .u32 0,.int .u32 0,.int .u32 0,.int .u32 0]):=Hd (by rw[e];rfl);obtain⟨t,a⟩:=xq ((((w.alloc (.cells cs 184)).alloc (.cells r 196)).alloc (.cells r 196)));have V:Hid (Bw w t):=Hd (by rw[a];exact(((zR _ _).alloc (zL _) _).alloc (by simp) _).alloc (by simp;omega) _);have L:t.heap[w.heap.size]?=some (.cells cs 184 (0,0)):=by rw[a];exact Xad (Xad (heap_alloc_last w _))
 have M:WB t (w.heap.size+1) 196 (List.replicate 16 0):=by unfold WB;rw[a,←e];have:=heap_alloc_last (w.alloc (.cells cs 184)) (.cells r 196);rw[World.size_alloc] at this;exact Xad this
 have N:WB t (w.heap.size+2) 196 (List.replicate 16 0):=by unfold WB;rw[a,←e];have:=heap_alloc_last ((w.alloc (.cells cs 184)).alloc (.cells r 196)) (.cells r 196);rw[World.size_alloc,World.size_alloc] at this;exact this
 have K:=Hd a;have G:=Hd (run_loadVar_row (P:=prog) t w.heap.size _ 184 cs _ _ L underlying184 rfl (by rw[b,Xaf,hl.len];exact Xts));have E:=Hd (fun j S c n w=>Yjl hl.len j S c n w);rw[←b];clear hl b T a L e;go_enter func134,ntmps134;go_upto_region 2 with fail;have f:=K.o;rw[X.o] at f;rw[←f];rw[show w.heap.size+1+1=w.heap.size+2 from rfl];clear f K;refine wp_region_list ?_;simp only[];refine Xab 184 rfl _ rfl ⟨_,_,rfl,G.o,?_⟩;clear G;go_wp2_with fail;go_loopg [4,5,7] 64 (fun k v4 v5 i wr=>∃j:Nat,j≤64∧k=64-j∧i=.int .i64 (j:Int)∧WB wr (w.heap.size+2) 196 (Xx2 l j)∧WB wr (w.heap.size+1) 196 (List.replicate 16 0)∧Bw w wr);exact⟨0,by omega,rfl,rfl,N,M,V.o⟩;obtain⟨j,S,rfl,rfl,R,Q,s⟩:=hrel;have y:=Hd s;have x:=Hd Q;have u:=Hd R;have m:=Hd (Yah A.o.lt j);clear s Q R M N;by_cases h:j<64
 ·obtain⟨c,n⟩:=xq (l.getD j 0);have ix:∀w,(Instr.index 184 (.agg cs) (.int .i64 (j:Int))).run prog w=.ok (.int .u8 (c:Int)) w:=fun w=>by rw[z.o];exact E.o j h c n w
  have g:j<l.length:=by rw[A.o.len];exact h
  have aA:c<256:=by rw[n,List.getD_eq_getElem?_getD,List.getElem?_eq_getElem g,Option.getD_some];exact A.o.lt _ (zG g)
  obtain⟨q,U⟩:=xq (j/4);have C:q<16:=by omega
  obtain⟨v,hv⟩:=xq ((Xx2 l j).getD q 0);have aB:v<4294967296:=by rw[hv];exact m.o.at q
  have cl:wr.cell? ⟨w.heap.size+2,q,none⟩=some (.int .u32 ((v:Nat):Int)):=by rw[hv];exact u.o.cell (by rw[m.o.len];exact C)
  have fr:wr.frozen? ⟨w.heap.size+2,q,none⟩=false:=Xby u.o q;have W:Hid (Xx2 l (j+1)=(Xx2 l j).set q (Xdq v 8|||c)):=Hd (by rw[Xkj];unfold Xp1;rw[←U,←hv,←n]);have jq:(j:Int)/4=(q:Int):=by omega
  clear U hv n g;go_wp2_with fail;have Z:((v:Int)*256%4294967296)=((Xdq v 8:Nat):Int):=by unfold Xdq;omega
  rw[Z,u32_or_nat (Xdq v 8) c (Nat.mod_lt _ (by omega)) (by omega)];go_roundg (64-(j+1));exact⟨j+1,by omega,rfl,by go_num,by rw[W.o];exact u.o.set q _,by have:=x.o;unfold WB at this⊢;rw[Xet _ _ _ _ _ (by omega)];exact this,y.o.setCell (Nat.le_add_right _ 2) _⟩;omega
 obtain rfl:j=64:=by omega
 have F:=Hd (u.o.load m.o);have Y:=Xb4 (List.replicate 16 0);have H:=Hd (run_storeVar_row (P:=prog) wr (w.heap.size+1) _ 196 (wA (List.replicate 16 0)) (wA (ldF l)) x.o (by rw[Xb4];unfold ldF;rw[m.o.len];exact Xne) (by rw[Xb4,Xb4];unfold ldF;rw[m.o.len];simp) (Xox _));have J:=Hd (setRow_heap wr (w.heap.size+1) _ (wA (ldF l)) _ _ x.o);have I:Hid ((prog.info? 196).map (·.size)=some (wA (ldF l)).size):=Hd (by rw[Xb4];unfold ldF;rw[m.o.len];exact Xne);have D:=Hd (below_setRow y.o (Nat.le_succ _) (wA (ldF l)));obtain⟨rs,d⟩:=xq (wA (ldF l));have O:wA (Xx2 l 64)=wA (ldF l):=rfl;rw[O,←d] at F;rw[←d] at H J I D;have B:=Hd d;clear d O Y h y E;go_wp2_with (first
  |((with_reducible refine Xab 196 rfl _ rfl ?_);refine⟨_,_,rfl,F.o,?_⟩)
  |((with_reducible refine Xaa 196 rfl _ _ rfl ?_);refine⟨_,_,_,rfl,rfl,H.o,?_⟩))
 exact zP (results_cell_row results134 _ _ (w.heap.size+1) _ _ _ _ rfl J.o underlying196 rfl I.o) rfl ⟨by rw[B.o],D.o⟩
theorem Yeg (w:World)(x y:W8):zJ 184 #[.agg (wC x),.agg (wC y)] w (.agg (wC (Xgz x y))):=by
 obtain⟨w0,j⟩:=xq (((w.alloc (.cells (wC x) 191)).alloc (.cells (wC y) 191)).alloc (.cells wZ 191));have l:w0.heap[w.heap.size]?=some (.cells (wC x) 191 (0,0)):=by rw[j];exact Xad (Xad (heap_alloc_last w _))
 have m:w0.heap[w.heap.size+1]?=some (.cells (wC y) 191 (0,0)):=by rw[j];have:=heap_alloc_last (w.alloc (.cells (wC x) 191)) (.cells (wC y) 191);rw[World.size_alloc] at this;exact Xad this
 have h:w0.heap[w.heap.size+2]?=some (.cells wZ 191 (0,0)):=by rw[j];have:=heap_alloc_last ((w.alloc (.cells (wC x) 191)).alloc (.cells (wC y) 191)) (.cells wZ 191);rw[World.size_alloc,World.size_alloc] at this;exact this
 have q:Hid (Bw w w0):=Hd (by rw[j];exact(((zR _ _).alloc (zL _) _).alloc (by simp) _).alloc (by simp;omega) _);have p:=Hd h;have k:=j;unfold wC wZ at k;have n:=Hd k;have r:w0.cell? ⟨w.heap.size,0,none⟩=some (.int .u32 (x.a:Int)):=cell_of_row w0 _ 0 _ _ _ l;have s:w0.cell? ⟨w.heap.size,1,none⟩=some (.int .u32 (x.b:Int)):=cell_of_row w0 _ 1 _ _ _ l;have t:w0.cell? ⟨w.heap.size,2,none⟩=some (.int .u32 (x.c:Int)):=cell_of_row w0 _ 2 _ _ _ l;have u:w0.cell? ⟨w.heap.size,3,none⟩=some (.int .u32 (x.d:Int)):=cell_of_row w0 _ 3 _ _ _ l;have v:w0.cell? ⟨w.heap.size,4,none⟩=some (.int .u32 (x.e:Int)):=cell_of_row w0 _ 4 _ _ _ l;have z:w0.cell? ⟨w.heap.size,5,none⟩=some (.int .u32 (x.f:Int)):=cell_of_row w0 _ 5 _ _ _ l;have A:w0.cell? ⟨w.heap.size,6,none⟩=some (.int .u32 (x.g:Int)):=cell_of_row w0 _ 6 _ _ _ l;have B:w0.cell? ⟨w.heap.size,7,none⟩=some (.int .u32 (x.i:Int)):=cell_of_row w0 _ 7 _ _ _ l;have C:w0.cell? ⟨w.heap.size+1,0,none⟩=some (.int .u32 (y.a:Int)):=cell_of_row w0 _ 0 _ _ _ m;have D:w0.cell? ⟨w.heap.size+1,1,none⟩=some (.int .u32 (y.b:Int)):=cell_of_row w0 _ 1 _ _ _ m;have E:w0.cell? ⟨w.heap.size+1,2,none⟩=some (.int .u32 (y.c:Int)):=cell_of_row w0 _ 2 _ _ _ m;have F:w0.cell? ⟨w.heap.size+1,3,none⟩=some (.int .u32 (y.d:Int)):=cell_of_row w0 _ 3 _ _ _ m;have G:w0.cell? ⟨w.heap.size+1,4,none⟩=some (.int .u32 (y.e:Int)):=cell_of_row w0 _ 4 _ _ _ m;have H:w0.cell? ⟨w.heap.size+1,5,none⟩=some (.int .u32 (y.f:Int)):=cell_of_row w0 _ 5 _ _ _ m;have I:w0.cell? ⟨w.heap.size+1,6,none⟩=some (.int .u32 (y.g:Int)):=cell_of_row w0 _ 6 _ _ _ m;have J:w0.cell? ⟨w.heap.size+1,7,none⟩=some (.int .u32 (y.i:Int)):=cell_of_row w0 _ 7 _ _ _ m;have R:Hid (wC (Xgz x y)=#[.int .u32 (((x.a:Int)+(y.a:Int))%4294967296),.int .u32 (((x.b:Int)+(y.b:Int))%4294967296),.int .u32 (((x.c:Int)+(y.c:Int))%4294967296),.int .u32 (((x.d:Int)+(y.d:Int))%4294967296),.int .u32 (((x.e:Int)+(y.e:Int))%4294967296),.int .u32 (((x.f:Int)+(y.f:Int))%4294967296),.int .u32 (((x.g:Int)+(y.g:Int))%4294967296),.int .u32 (((x.i:Int)+(y.i:Int))%4294967296)]):=Hd (by unfold wC Xgz;simp only[Xdf]);have K:w0.frozen? ⟨w.heap.size+2,0,none⟩=false:=Xby h 0;have T:w0.cell? ⟨w.heap.size+2,0,none⟩=some (.int .u32 0):=cell_of_row w0 _ 0 _ _ _ h;have L:w0.frozen? ⟨w.heap.size+2,1,none⟩=false:=Xby h 1;have U:w0.cell? ⟨w.heap.size+2,1,none⟩=some (.int .u32 0):=cell_of_row w0 _ 1 _ _ _ h;have M:w0.frozen? ⟨w.heap.size+2,2,none⟩=false:=Xby h 2;have V:w0.cell? ⟨w.heap.size+2,2,none⟩=some (.int .u32 0):=cell_of_row w0 _ 2 _ _ _ h;have N:w0.frozen? ⟨w.heap.size+2,3,none⟩=false:=Xby h 3;have W:w0.cell? ⟨w.heap.size+2,3,none⟩=some (.int .u32 0):=cell_of_row w0 _ 3 _ _ _ h;have O:w0.frozen? ⟨w.heap.size+2,4,none⟩=false:=Xby h 4;have X:w0.cell? ⟨w.heap.size+2,4,none⟩=some (.int .u32 0):=cell_of_row w0 _ 4 _ _ _ h;have P:w0.frozen? ⟨w.heap.size+2,5,none⟩=false:=Xby h 5;have Y:w0.cell? ⟨w.heap.size+2,5,none⟩=some (.int .u32 0):=cell_of_row w0 _ 5 _ _ _ h;have Q:w0.frozen? ⟨w.heap.size+2,6,none⟩=false:=Xby h 6;have Z:w0.cell? ⟨w.heap.size+2,6,none⟩=some (.int .u32 0):=cell_of_row w0 _ 6 _ _ _ h;have S:w0.frozen? ⟨w.heap.size+2,7,none⟩=false:=Xby h 7;have g7:w0.cell? ⟨w.heap.size+2,7,none⟩=some (.int .u32 0):=cell_of_row w0 _ 7 _ _ _ h;clear j k l m h;unfold wC;go_enter func184,ntmps184;go_upto_region 1 with fail;rw[←n.o,show w.heap.size+1+1=w.heap.size+2 from rfl];clear n;go_wp2_with fail;exact zP (results_cell_row results184 _ _ (w.heap.size+2) _ _ _ _ rfl (Yoo (w:=w0) p.o _ _ _ _ _ _ _ _) underlying191 rfl Xc9) rfl ⟨(by have:=R.o;unfold wC at this;rw[this]),Xm0 q.o (Nat.le_add_right _ 2) _ _ _ _ _ _ _ _⟩
def VB (w:World)(b:Nat)(v:W8):Prop:=w.heap[b]?=some (.cells (wC v) 191 (0,0))
theorem Xgu (v:W8):(wC v).size=8:=rfl
theorem Xx9 (v:W8):(wC v).all (·.oneCell')=true:=by simp[wC,Value.oneCell']
theorem VB.lt {w:World}{b:Nat}{v:W8}(h:VB w b v):b<w.heap.size:=zY h
theorem VB.below {w w':World}{b:Nat}{v:W8}(h:VB w b v)(hb:Bw w w'):VB w' b v:=(hb.block b h.lt).trans h
theorem VB.load {w:World}{b:Nat}{v:W8}(h:VB w b v):Ld 191 ⟨b,0,none⟩ w (.agg (wC v)):=
 run_loadVar_row w b _ 191 _ _ _ h underlying191 rfl (by rw[Xgu];exact Xc9)
theorem VB.store {w:World}{b:Nat}{v:W8}(h:VB w b v)(v':W8):Sv 191 ⟨b,0,none⟩ (.agg (wC v')) w (w.setRow b (wC v')):=
 run_storeVar_row w b _ 191 _ _ h (by rw[Xgu];exact Xc9) (by rw[Xgu,Xgu]) (Xx9 v')
theorem VB.set {w:World}{b:Nat}{v:W8}(h:VB w b v)(v':W8):VB (w.setRow b (wC v')) b v':=setRow_heap w b _ _ _ _ h
theorem VB.other {w:World}{b k:Nat}{v:W8}(h:VB w k v)(cs:Array Value)(hne:k≠b):VB (w.setRow b cs) k v:=(setRow_other w b k cs hne).trans h
theorem WB.other {w:World}{b k:Nat}{T:TypeId}{ws:List Nat}(h:WB w k T ws)(cs:Array Value)(hne:k≠b):WB (w.setRow b cs) k T ws:=(setRow_other w b k cs hne).trans h
theorem VB.setC {w:World}{b k:Nat}{v:W8}(h:VB w k v)(j:Nat)(u:Value)(hne:k≠b):VB (w.setCell ⟨b,j,none⟩ u) k v:=(Xet w b j k u hne).trans h
theorem Yiv {h:W8}{ws:List Nat}(hh:h.Ok)(hw:L16 ws)(n:Nat):(Xns h ws n).1.Ok∧L16 (Xns h ws n).2:=by
 induction n with
 |zero=>exact⟨hh,hw⟩
 |succ n ih=>
  rw[Xeo];refine⟨Yg7 ih.1 _ _,?_⟩;show L16 (Xh0 _ n);unfold Xh0;split;·exact ih.2
  exact ih.2.set _ (Xc2 _ _)
theorem Xyz:∀i,shK.getD i 0<4294967296:=fun i=>by
 by_cases hi:i<shK.length
 ·have:∀i:Fin 64,shK.getD i.val 0<4294967296:=by decide+kernel
  exact this ⟨i,hi⟩
 rw[List.getD_eq_getElem?_getD,List.getElem?_eq_none (by omega)];decide
theorem Xrq (w:World){h:W8}{ws:List Nat}(hh:h.Ok)(hw:L16 ws)(hE:Env w):zJ 133 #[.agg (wC h),.agg (wA ws)] w (.agg (wC (Xgy h ws))):=by
 obtain⟨hs,aE⟩:=xq (wC h);obtain⟨cs,aD⟩:=xq (wA ws);obtain⟨zs,X⟩:=xq (wC ⟨0,0,0,0,0,0,0,0⟩);have Z0:Hid (zs=wZ):=Hd X;obtain⟨w0,s⟩:=xq (((w.alloc (.cells hs 191)).alloc (.cells cs 196)).alloc (.cells zs 191));have b0:VB w0 w.heap.size h:=by unfold VB;rw[s,←aE];exact Xad (Xad (heap_alloc_last w _))
 have b1:WB w0 (w.heap.size+1) 196 ws:=by unfold WB;rw[s,←aD];have:=heap_alloc_last (w.alloc (.cells hs 191)) (.cells cs 196);rw[World.size_alloc] at this;exact Xad this
 have b2:VB w0 (w.heap.size+2) ⟨0,0,0,0,0,0,0,0⟩:=by unfold VB;rw[s,←X];have:=heap_alloc_last ((w.alloc (.cells hs 191)).alloc (.cells cs 196)) (.cells zs 191);rw[World.size_alloc,World.size_alloc] at this;exact this
 have aK:w0.heap.size=w.heap.size+3:=by rw[s];simp
 have BW:Hid (Bw w w0):=Hd (by rw[s];exact(((zR _ _).alloc (zL _) _).alloc (by simp) _).alloc (by simp;omega) _);have W0:=Hd s;have LD:=Hd b0.load;obtain⟨w1,V⟩:=xq (w0.alloc (.cells zs 191));have c3:VB w1 (w.heap.size+3) ⟨0,0,0,0,0,0,0,0⟩:=by unfold VB;rw[V,←X,←aK];exact heap_alloc_last w0 _
 have ST:=Hd (c3.store h);have C:Bw w0 w1:=by rw[V];exact(zR _ _).alloc (zL _) _
 have L:=Hd ((b0.below C).other (wC h) (show w.heap.size≠w.heap.size+3 by omega));have M:=Hd ((b1.below C).other (wC h) (show w.heap.size+1≠w.heap.size+3 by omega));have N:=Hd ((b2.below C).other (wC h) (show w.heap.size+2≠w.heap.size+3 by omega));have O:=Hd (c3.set h);have K:=Hd (below_setRow (BW.o.trans (C.mono (by omega))) (Nat.le_add_right w.heap.size 3) (wC h));have W1:=Hd V;rw[←aE] at LD ST L M N O K⊢;rw[←aD];have HE:=Hd hE;have HH:=Hd hh;have HW:=Hd hw;have aB:=Hd aK;clear s V b0 b1 b2 c3 C X aE aD hE hh hw aK;go_enter func133,ntmps133;go_upto_region 1 with fail;have Q:=W0.o;rw[Z0.o] at Q;unfold wZ at Q;rw[←Q,show w.heap.size+1+1=w.heap.size+2 from rfl];clear Q W0;obtain⟨w2,aU⟩:=xq (w1.setRow (w.heap.size+3) hs);rw[←aU] at ST L M N O K;have aM:Hid (Sv 191 ⟨w0.heap.size,0,none⟩ (.agg hs) (w0.alloc (.cells #[.int .u32 0,.int .u32 0,.int .u32 0,.int .u32 0,.int .u32 0,.int .u32 0,.int .u32 0,.int .u32 0] 191)) w2):=Hd (by have:=ST.o;rw[W1.o,Z0.o] at this;rw[aB.o];exact this);clear aU ST W1 BW;refine wp_region_list ?_;simp only[];refine Xab 191 rfl _ rfl ⟨_,_,rfl,LD.o,?_⟩;clear LD;go_upto_region 2 with((with_reducible refine Xaa 191 rfl _ _ rfl ?_);refine⟨_,_,_,rfl,rfl,aM.o,?_⟩)
 rw[aB.o];clear aM aB;go_wp2_with fail;go_loopg [6,7,8,9,10,12] 64 (fun k v6 v7 v8 v9 v10 i wr=>∃j:Nat,j≤64∧k=64-j∧i=.int .i64 (j:Int)∧VB wr w.heap.size h∧WB wr (w.heap.size+1) 196 (Xns h ws j).2∧VB wr (w.heap.size+2) ⟨0,0,0,0,0,0,0,0⟩∧VB wr (w.heap.size+3) (Xns h ws j).1∧Bw w wr);exact⟨0,by omega,rfl,rfl,L.o,M.o,N.o,O.o,K.o⟩;clear L M N O K;obtain⟨j,hj,rfl,rfl,h0,h1,h2,h3,aC⟩:=hrel;have P:=Hd (HE.o.below aC HE.o.size);have HB:=Hd aC;have G0:=Hd h0;have Z:=Hd h1;have G2:=Hd h2;have G3:=Hd h3;have B:=Hd (Yiv HH.o HW.o j);have NX:=Hd (Xeo h ws j);clear h0 h1 h2 h3 aC;obtain⟨v,hv⟩:=xq ((Xns h ws j).1);obtain⟨W,hW⟩:=xq ((Xns h ws j).2);rw[←hv] at G3 B;rw[←hW] at Z B;have D:Hid (∀W',Xh0 W j=W'→Xns h ws (j+1)=(rnd v (shK.getD j 0) (W'.getD (j%16) 0),W')):=Hd (by rintro W' rfl;rw[NX.o];unfold Xzs;rw[←hv,←hW]);have HV:=Hd hv;clear hv hW NX;by_cases hlt:j<64
 ·by_cases h16:j<16
  ·have aA:Hid (Xh0 W j=W):=Hd (by unfold Xh0;rw[qP h16]);have LW:=Hd B.o.2;have Z0:=Hd G0.o;have Z1:=Hd Z.o;have Z2:=Hd G2.o;have Z3:=Hd G3.o;have ZE:=Hd P.o;have ZB:=Hd HB.o;clear G0 Z G2 G3 P HB HV;have aO:¬(16:Int)≤(j:Int):=by omega
   obtain⟨f,n⟩:=xq (shK.getD j 0);have aF:f<4294967296:=by rw[n];exact Xyz j
   obtain⟨t,U⟩:=xq (W.getD (j%16) 0);have aH:t<4294967296:=by rw[U];exact LW.o.at _
   obtain⟨G,hY⟩:=xq wr.drew;have g:Bw wr G:=by rw[hY];exact(zR _ _).drew
   obtain⟨q,hq⟩:=xq (j%16);have aG:q<16:=by omega
   have jt:(j:Int).tmod 16=(q:Int):=by rw[Int.tmod_eq_emod_of_nonneg (by omega)];omega
   have q0:(0:Int)≤(q:Int):=by omega
   have q1:(q:Int)<16:=by omega
   have cK:G.cell? ⟨1,j,none⟩=some (.int .u32 ((f:Nat):Int)):=by rw[n];exact(ZE.o.on g).sha j hlt
   have cT:G.cell? ⟨w.heap.size+1,q,none⟩=some (.int .u32 ((t:Nat):Int)):=by rw[U,←hq];exact(Z1.o.below g).cell (by rw[LW.o.len];exact aG)
   have RD:=Hd (Xpf G v f t B.o.1 aF aH);have LV:=Hd ((Z3.o.below g).load);have m:=Hd (D.o W aA.o);rw[←n,←U] at m;have c:Hid (∀b,Bw G b→Sv 191 ⟨w.heap.size+3,0,none⟩ (.agg (wC (rnd v f t))) b (b.setRow (w.heap.size+3) (wC (rnd v f t)))∧VB (b.setRow (w.heap.size+3) (wC (rnd v f t))) w.heap.size h∧WB (b.setRow (w.heap.size+3) (wC (rnd v f t))) (w.heap.size+1) 196 (Xns h ws (j+1)).2∧VB (b.setRow (w.heap.size+3) (wC (rnd v f t))) (w.heap.size+2) ⟨0,0,0,0,0,0,0,0⟩∧VB (b.setRow (w.heap.size+3) (wC (rnd v f t))) (w.heap.size+3) (Xns h ws (j+1)).1∧Bw w (b.setRow (w.heap.size+3) (wC (rnd v f t)))):=Hd (by
    intro b a;have x3:=(Z3.o.below g).below a;refine⟨x3.store _,((Z0.o.below g).below a).other _ (by omega),?_,((Z2.o.below g).below a).other _ (by omega),?_,below_setRow ((bg ZB.o g).trans (a.mono (Nat.le_trans ZB.o.size g.size))) (Nat.le_add_right _ 3) _⟩;·rw[m.o];exact((Z1.o.below g).below a).other _ (by omega)
    rw[m.o];exact x3.set _)
   obtain⟨vs,l⟩:=xq (wC v);obtain⟨rs,d⟩:=xq (wC (rnd v f t));rw[←l,←d] at RD;rw[←l] at LV;rw[←d] at c;clear n U hq g l d D m Z0 Z1 Z2 Z3 ZE ZB;go_upto_region 10 with fail;refine wp_region_still_tail 8 (by kernel_rfl) (by kernel_rfl) ?_;simp only[List.take_succ_cons,List.take_zero,List.drop_succ_cons,List.drop_zero];change wpStill _ _ wr.drew (fun a'=>wpList _ _ _ _ a' wr.drew) _ _;rw[←hY];clear hY;refine Xin 191 rfl _ rfl ⟨_,_,rfl,LV.o,?_⟩;repeat still_step
   refine wpStill_nil ?_;go_wp2_with fail;refine RD.o.mono ?_;rintro e b ⟨rfl,a⟩;obtain⟨E,r,F,f3,f4,f5⟩:=c.o b a;obtain⟨w5,p⟩:=xq (b.setRow (w.heap.size+3) rs);rw[←p] at E r F f3 f4 f5;have F0:=Hd E;have F1:=Hd r;have F2:=Hd F;have F3:=Hd f3;have F4:=Hd f4;have F5:=Hd f5;clear E r F f3 f4 f5 p a c RD LV cK cT;go_wp2_with ((with_reducible refine Xaa 191 rfl _ _ rfl ?_);refine⟨_,_,_,rfl,rfl,F0.o,?_⟩)
   go_roundg (64-(j+1));exact⟨j+1,by omega,rfl,by go_num,F1.o,F2.o,F3.o,F4.o,F5.o⟩;omega
  obtain⟨qa,aQ⟩:=xq ((j-15)%16);obtain⟨qb,aR⟩:=xq ((j-2)%16);obtain⟨qc,aS⟩:=xq ((j-7)%16);obtain⟨Y,aT⟩:=xq (j%16);have ja:((j:Int)-15).tmod 16=(qa:Int):=by rw[Int.tmod_eq_emod_of_nonneg (by omega)];omega
  have jb:((j:Int)-2).tmod 16=(qb:Int):=by rw[Int.tmod_eq_emod_of_nonneg (by omega)];omega
  have jc:((j:Int)-7).tmod 16=(qc:Int):=by rw[Int.tmod_eq_emod_of_nonneg (by omega)];omega
  have jd:(j:Int).tmod 16=(Y:Int):=by rw[Int.tmod_eq_emod_of_nonneg (by omega)];omega
  have wa:IntKind.i64.wrap ((j:Int)-15)=(j:Int)-15:=IntWalk.i64_in _ (by omega);have wb:IntKind.i64.wrap ((j:Int)-2)=(j:Int)-2:=IntWalk.i64_in _ (by omega);have wc:IntKind.i64.wrap ((j:Int)-7)=(j:Int)-7:=IntWalk.i64_in _ (by omega);have a0:(0:Int)≤(qa:Int):=by omega
  have a1:(qa:Int)<16:=by omega
  have b0:(0:Int)≤(qb:Int):=by omega
  have b1:(qb:Int)<16:=by omega
  have c0:(0:Int)≤(qc:Int):=by omega
  have c1:(qc:Int)<16:=by omega
  have d0:(0:Int)≤(Y:Int):=by omega
  have d1:(Y:Int)<16:=by omega
  obtain⟨x,hx⟩:=xq (W.getD qa 0);obtain⟨y,hy⟩:=xq (W.getD qb 0);obtain⟨z,hz⟩:=xq (W.getD qc 0);obtain⟨u,hu⟩:=xq (W.getD Y 0);have H:x<4294967296:=by rw[hx];exact B.o.2.at _
  have I:y<4294967296:=by rw[hy];exact B.o.2.at _
  have cx:wr.cell? ⟨w.heap.size+1,qa,none⟩=some (.int .u32 ((x:Nat):Int)):=by rw[hx];exact Z.o.cell (by rw[B.o.2.len];omega)
  have cy:wr.cell? ⟨w.heap.size+1,qb,none⟩=some (.int .u32 ((y:Nat):Int)):=by rw[hy];exact Z.o.cell (by rw[B.o.2.len];omega)
  obtain⟨s0,hs0⟩:=xq (rot x 7^^^rot x 18^^^x/2^3);obtain⟨s1,T⟩:=xq (rot y 17^^^rot y 19^^^y/2^10);have X0:Hid (bits .xor .u32 (bits .xor .u32 ((rot x 7:Nat):Int) ((rot x 18:Nat):Int)) ((x:Int)/8)=(s0:Int)):=Hd (by rw[u32_xor_nat _ _ (Xa7 H) (Xa7 H),show((x:Int)/8)=((x/2^3:Nat):Int) by omega,u32_xor_nat _ _ (Xc7 (Xa7 H) (Xa7 H)) (Nat.lt_of_le_of_lt (Nat.div_le_self _ _) H),hs0]);have X1:Hid (bits .xor .u32 (bits .xor .u32 ((rot y 17:Nat):Int) ((rot y 19:Nat):Int)) ((y:Int)/1024)=(s1:Int)):=Hd (by rw[u32_xor_nat _ _ (Xa7 I) (Xa7 I),show((y:Int)/1024)=((y/2^10:Nat):Int) by omega,u32_xor_nat _ _ (Xc7 (Xa7 I) (Xa7 I)) (Nat.lt_of_le_of_lt (Nat.div_le_self _ _) I),T]);have l0:s0<4294967296:=by rw[hs0];exact Xc7 (Xc7 (Xa7 H) (Xa7 H)) (Nat.lt_of_le_of_lt (Nat.div_le_self _ _) H)
  have l1:s1<4294967296:=by rw[T];exact Xc7 (Xc7 (Xa7 I) (Xa7 I)) (Nat.lt_of_le_of_lt (Nat.div_le_self _ _) I)
  obtain⟨nw,S⟩:=xq (Xba u (Xba (Xba s0 s1) z));obtain⟨W2,R⟩:=xq (W.set Y nw);have aA:Hid (Xh0 W j=W2):=Hd (by unfold Xh0 Ynl;rw[qN h16,R,S,hs0,T,hx,hy,hz,hu,aQ,aR,aS,aT]);have LW:Hid (L16 W2):=Hd (by rw[R];exact B.o.2.set _ (by rw[S];exact Xc2 _ _));have R1:=Hd (fun w=>Xh4 w x H 7 (by decide) (by decide) 7 rfl);have R2:=Hd (fun w=>Xh4 w x H 18 (by decide) (by decide) 18 rfl);have R3:=Hd (fun w=>Xh4 w y I 17 (by decide) (by decide) 17 rfl);have R4:=Hd (fun w=>Xh4 w y I 19 (by decide) (by decide) 19 rfl);have NW:Hid (((nw:Nat):Int)=((u:Int)+(((s0:Int)+(s1:Int))%4294967296+(z:Int))%4294967296)%4294967296):=Hd (by rw[S];unfold Xba;omega);have HZ:=Hd hz;have HU:=Hd hu;have aO:(16:Int)≤(j:Int):=by omega
  clear hs0 T hx hy hz hu aQ aR aS aT S;go_upto_region 6 with fail;go_quiet (fail);obtain⟨wk,aI⟩:=xq (wr.drewN nq);have dk:Bw wr wk:=by rw[aI];exact Dr.below ⟨nq,rfl⟩
  rw[←aI];clear cx cy aI;go_upto_region 8 with(first|(go_at_call 182;first|(with_reducible refine(R1.o _).mono ?_;rintro e w' ⟨rfl,rfl⟩)|(with_reducible refine(R2.o _).mono ?_;rintro e w' ⟨rfl,rfl⟩)))
  rw[X0.o];clear R1 R2 X0;go_upto_region 9 with(first|(go_at_call 182;first|(with_reducible refine(R3.o _).mono ?_;rintro e w' ⟨rfl,rfl⟩)|(with_reducible refine(R4.o _).mono ?_;rintro e w' ⟨rfl,rfl⟩)))
  rw[X1.o];clear R3 R4 X1;obtain⟨wm,aJ⟩:=xq wk.drew;have dm:Bw wr wm:=dk.trans (by rw[aJ];exact((zR wk.heap.size wk).drew).mono dk.size);have K1:=Z.o.below dm;have cu:wm.cell? ⟨w.heap.size+1,Y,none⟩=some (.int .u32 ((u:Nat):Int)):=by rw[HU.o];exact K1.cell (by rw[B.o.2.len];omega)
  have cz:wm.cell? ⟨w.heap.size+1,qc,none⟩=some (.int .u32 ((z:Nat):Int)):=by rw[HZ.o];exact K1.cell (by rw[B.o.2.len];omega)
  have fu:wm.frozen? ⟨w.heap.size+1,Y,none⟩=false:=Xby K1 Y;obtain⟨J,A⟩:=xq (wm.setCell ⟨w.heap.size+1,Y,none⟩ (.int .u32 ((nw:Nat):Int)));have ZB:Hid (Bw w J):=Hd (by rw[A];exact(bg HB.o dm).setCell (Nat.le_add_right _ 1) _);have Z1:Hid (WB J (w.heap.size+1) 196 W2):=Hd (by rw[A,R];exact K1.set _ _);have Z0:Hid (VB J w.heap.size h):=Hd (by rw[A];exact(G0.o.below dm).setC _ _ (by omega));have Z2:Hid (VB J (w.heap.size+2) ⟨0,0,0,0,0,0,0,0⟩):=Hd (by rw[A];exact(G2.o.below dm).setC _ _ (by omega));have Z3:Hid (VB J (w.heap.size+3) v):=Hd (by rw[A];exact(G3.o.below dm).setC _ _ (by omega));have ZE:Hid (Env J):=Hd (HE.o.below ZB.o HE.o.size);have aN:=Hd A;clear G0 Z G2 G3 P HB HV dk dm K1 HU HZ A R;refine wp_region_still_tail 15 (by kernel_rfl) (by kernel_rfl) ?_;simp only[List.take_succ_cons,List.take_zero,List.drop_succ_cons,List.drop_zero];change wpStill _ _ wk.drew (fun a'=>wpList _ _ _ _ a' wk.drew) _ _;rw[←aJ];clear aJ;repeat still_step
  refine wpStill_nil ?_;go_upto_region 10 with fail;rw[←NW.o,←aN.o];clear aN NW cu cz fu ja jb jc jd wa wb wc;obtain⟨f,n⟩:=xq (shK.getD j 0);have aF:f<4294967296:=by rw[n];exact Xyz j
  obtain⟨t,U⟩:=xq (W2.getD (j%16) 0);have aH:t<4294967296:=by rw[U];exact LW.o.at _
  obtain⟨G,hY⟩:=xq J.drew;have g:Bw J G:=by rw[hY];exact(zR _ _).drew
  obtain⟨q,hq⟩:=xq (j%16);have aG:q<16:=by omega
  have jt:(j:Int).tmod 16=(q:Int):=by rw[Int.tmod_eq_emod_of_nonneg (by omega)];omega
  have q0:(0:Int)≤(q:Int):=by omega
  have q1:(q:Int)<16:=by omega
  have cK:G.cell? ⟨1,j,none⟩=some (.int .u32 ((f:Nat):Int)):=by rw[n];exact(ZE.o.on g).sha j hlt
  have cT:G.cell? ⟨w.heap.size+1,q,none⟩=some (.int .u32 ((t:Nat):Int)):=by rw[U,←hq];exact(Z1.o.below g).cell (by rw[LW.o.len];exact aG)
  have RD:=Hd (Xpf G v f t B.o.1 aF aH);have LV:=Hd ((Z3.o.below g).load);have m:=Hd (D.o W2 aA.o);rw[←n,←U] at m;have c:Hid (∀b,Bw G b→Sv 191 ⟨w.heap.size+3,0,none⟩ (.agg (wC (rnd v f t))) b (b.setRow (w.heap.size+3) (wC (rnd v f t)))∧VB (b.setRow (w.heap.size+3) (wC (rnd v f t))) w.heap.size h∧WB (b.setRow (w.heap.size+3) (wC (rnd v f t))) (w.heap.size+1) 196 (Xns h ws (j+1)).2∧VB (b.setRow (w.heap.size+3) (wC (rnd v f t))) (w.heap.size+2) ⟨0,0,0,0,0,0,0,0⟩∧VB (b.setRow (w.heap.size+3) (wC (rnd v f t))) (w.heap.size+3) (Xns h ws (j+1)).1∧Bw w (b.setRow (w.heap.size+3) (wC (rnd v f t)))):=Hd (by
   intro b a;have x3:=(Z3.o.below g).below a;refine⟨x3.store _,((Z0.o.below g).below a).other _ (by omega),?_,((Z2.o.below g).below a).other _ (by omega),?_,below_setRow ((bg ZB.o g).trans (a.mono (Nat.le_trans ZB.o.size g.size))) (Nat.le_add_right _ 3) _⟩;·rw[m.o];exact((Z1.o.below g).below a).other _ (by omega)
   rw[m.o];exact x3.set _)
  obtain⟨vs,l⟩:=xq (wC v);obtain⟨rs,d⟩:=xq (wC (rnd v f t));rw[←l,←d] at RD;rw[←l] at LV;rw[←d] at c;clear n U hq g l d D m Z0 Z1 Z2 Z3 ZE ZB;go_upto_region 10 with fail;refine wp_region_still_tail 8 (by kernel_rfl) (by kernel_rfl) ?_;simp only[List.take_succ_cons,List.take_zero,List.drop_succ_cons,List.drop_zero];change wpStill _ _ J.drew (fun a'=>wpList _ _ _ _ a' J.drew) _ _;rw[←hY];clear hY;refine Xin 191 rfl _ rfl ⟨_,_,rfl,LV.o,?_⟩;repeat still_step
  refine wpStill_nil ?_;go_wp2_with fail;refine RD.o.mono ?_;rintro e b ⟨rfl,a⟩;obtain⟨E,r,F,f3,f4,f5⟩:=c.o b a;obtain⟨w5,p⟩:=xq (b.setRow (w.heap.size+3) rs);rw[←p] at E r F f3 f4 f5;have F0:=Hd E;have F1:=Hd r;have F2:=Hd F;have F3:=Hd f3;have F4:=Hd f4;have F5:=Hd f5;clear E r F f3 f4 f5 p a c RD LV cK cT;go_wp2_with ((with_reducible refine Xaa 191 rfl _ _ rfl ?_);refine⟨_,_,_,rfl,rfl,F0.o,?_⟩)
  go_roundg (64-(j+1));exact⟨j+1,by omega,rfl,by go_num,F1.o,F2.o,F3.o,F4.o,F5.o⟩;omega
 obtain rfl:j=64:=by omega
 have PL:=Hd (fun w=>Yeg w h v);have L0:=Hd G0.o.load;have L3:=Hd G3.o.load;have c:Hid (∀b,Bw wr b→Sv 191 ⟨w.heap.size+2,0,none⟩ (.agg (wC (Xgz h v))) b (b.setRow (w.heap.size+2) (wC (Xgz h v)))∧VB (b.setRow (w.heap.size+2) (wC (Xgz h v))) (w.heap.size+2) (Xgz h v)∧Bw w (b.setRow (w.heap.size+2) (wC (Xgz h v)))):=Hd (by intro b a;have x2:=G2.o.below a;exact⟨x2.store _,x2.set _,below_setRow (bg HB.o a) (Nat.le_add_right _ 2) _⟩);have aL:Hid (wC (Xgy h ws)=wC (Xgz h v)):=Hd (by unfold Xgy;rw[←HV.o]);have SZ:Hid ((prog.info? 191).map (·.size)=some (wC (Xgz h v)).size):=Hd (by rw[Xgu];exact Xc9);obtain⟨h1,aP⟩:=xq (wC h);obtain⟨vs,l⟩:=xq (wC v);obtain⟨rs,d⟩:=xq (wC (Xgz h v));have aV:=Hd d;rw[←aP] at PL L0;rw[←l] at PL L3;rw[←d] at PL c aL SZ;clear G0 Z G2 G3 P HB HV D aP l d hlt B;go_wp2_with (first
  |((with_reducible refine Xab 191 rfl _ rfl ?_);first|(refine⟨_,_,rfl,L0.o,?_⟩)|(refine⟨_,_,rfl,L3.o,?_⟩)))
 refine(PL.o _).mono ?_;rintro e b ⟨rfl,a⟩;obtain⟨E,r,F⟩:=c.o b a;obtain⟨w5,p⟩:=xq (b.setRow (w.heap.size+2) rs);rw[←p] at E r F;have F0:=Hd E;have F1:=Hd r;have F2:=Hd F;clear E r F p a c PL L0 L3;go_wp2_with ((with_reducible refine Xaa 191 rfl _ _ rfl ?_);refine⟨_,_,_,rfl,rfl,F0.o,?_⟩)
 have r:=F1.o;unfold VB at r;rw[←aV.o] at r;exact zP (results_cell_row results133 _ _ (w.heap.size+2) _ _ _ _ rfl r underlying191 rfl SZ.o) rfl ⟨by rw[aL.o],F2.o⟩
end Go.Proofs.YtjolcnopipbkhaaGreatDoor
