/- Statement CanonicalVerify: for every input the call of CanonicalVerify returns true and its arguments read as before; the listed tables are as the program's text and the pinned constants lay them (the tied card). -/
import Derived.Test.YtjolcnopipbkhaaGreatDoorVe18
namespace Go.Proofs.YtjolcnopipbkhaaGreatDoor.canonicalVerify
open Go.Proofs.Tryz
open Go.ChangeShapes Go.WideShapes Go.ChangeAt Go.RowKit
open Go.ChangeMaps (open_string shut_string)
set_option linter.unusedVariables false
set_option maxHeartbeats 100000000
set_option maxRecDepth 100000
theorem contract (H:Type)(enc:TypeId×Value→H)(W:World)(base:Nat)(args:Array Value)(ds gs:List (DataW H))(before:List MemPlace) (hval:∀(j:Nat) t v,Tryz.f4.params[j]?=some t→args[j]?=some v→Value.okWide prog W .any base t v) (hW:DataW.Whole enc prog Tryz.f4.params.toList Rows.canonicalVerifySpec.vars false W args.toList ds gs before) (hwt:(DataW.weightsEach prog (Tryz.f4.params.toList++(OpenSpec.ofChange Rows.canonicalVerifySpec).bare.plain.varTypes prog) (ds++gs)).all (· ≤reachBytes)=true) (hL:laidMetH prog Rows.canonicalVerifyRow.laid W) (hS:W.ShapedOpen prog):Calls prog 4 args W fun e W'=>∃v,e=.returned v∧Rows.canonicalVerifySpec.post enc prog Tryz.f4 false true false false W args v W':=by
 have hW':=hW;obtain⟨p,q,hA0,hV,rfl,hfz,hnd⟩:=hW;have hA:DataW.TrodAll enc prog W 0 (fun _=>true) true Tryz.f4.params.toList args.toList ds p:=hA0;rw[Tryz.params4] at hA hval hwt;obtain⟨v0,vs0,d0,ds0,p0,q0,hargs,rfl,rfl,h0,r0⟩:=trodAll_cons hA;obtain⟨v1,vs1,d1,ds1,p1,q1,rfl,rfl,rfl,h1,r1⟩:=trodAll_cons r0;obtain⟨rfl,rfl,rfl⟩:=trodAll_nil r1;obtain rfl:args=#[v0,v1]:=by cases args;simp_all
 obtain⟨rfl,rfl⟩:=trodVars_none hV;have k0:=h0;have lt0:∀x∈p0,x.block<W.heap.size:=by obtain⟨m,hm⟩:=k0;exact DataW.trod_lt m _ _ _ hm
 have hw0:∀n∈d0.weights prog 28,n≤reachBytes:=fun n hn=>by simpa using List.all_eq_true.1 hwt n (DataW.weights_mem_each (j:=0) rfl rfl n hn)
 obtain⟨c0,g0,s0,rfl,ha0⟩:=Xqp (hval 0 28 v0 rfl rfl) h0 hw0;have k1:=h1;have lt1:∀x∈p1,x.block<W.heap.size:=by obtain⟨m,hm⟩:=k1;exact DataW.trod_lt m _ _ _ hm
 have hw1:∀n∈d1.weights prog 55,n≤reachBytes:=fun n hn=>by simpa using List.all_eq_true.1 hwt n (DataW.weights_mem_each (j:=1) rfl rfl n hn)
 obtain⟨lf1,sg1,pv1,ps1,rfl,hg1⟩:=Ydu (hval 1 55 v1 rfl rfl) h1 hw1;clear hA0;refine(Yja W c0 g0 s0 lf1 sg1 pv1 ps1 ha0 hg1 (Ymn (show laidMetH prog laidL W from hL) hS)).mono fun e W' ⟨he,bel⟩=>?_;subst he;exact⟨_,rfl,_,_,_,[],_,[],hW',trodAll_mk1 (shut_bool underlying4 _),(trodAll_cons_mk (Below.trod Yal (by kernel_rfl) (of_decide_eq_true (by kernel_rfl)) k0 bel lt0) (trodAll_cons_mk (Below.trod Yal (by kernel_rfl) (of_decide_eq_true (by kernel_rfl)) k1 bel lt1) trodAll_mk0)),rfl,bel.frame _,fun h=>by cases h⟩
def zeroD {H:Type}:DataW H:=.agg [.lit (.string []),.agg (List.replicate 16 (.lit (.int .u8 0))),.lit (.int .i64 0),.nil,.lit (.string []),.nil,.agg (List.replicate 32 (.lit (.int .u8 0))),.lit (.string []),.lit (.string []),.lit (.int .i64 0),.lit (.int .i64 0),.agg (List.replicate 16 (.lit (.int .u8 0))),.lit (.int .i64 0),.lit (.string [])]
def zeroGD {H:Type}:DataW H:=.agg [.lit (.int .i64 0),.agg (List.replicate 35 (.agg (List.replicate 16 (.lit (.int .u8 0))))),.nil]
theorem reads_any {H:Type}(enc:TypeId×Value→H)(W:World):DataW.whole enc prog W Tryz.f4.params.toList Rows.canonicalVerifySpec.vars false #[Value.agg Yc8,.agg Yc7].toList 8=some ([zeroD,zeroGD],[],[]):=by kernel_rfl
theorem reads (os:Os){H:Type}(enc:TypeId×Value→H):∃places,DataW.whole enc prog ((World.laidAll prog os laidL).forCall (fun _ _=>0) ⟨#[],#[Value.agg Yc8,.agg Yc7],[]⟩).memory Tryz.f4.params.toList Rows.canonicalVerifySpec.vars false #[Value.agg Yc8,.agg Yc7].toList 8=some ([zeroD,zeroGD],[],places):=
 ⟨[],reads_any enc _⟩
theorem lifted (os:Os)(started:os.Started)(H:Type)(enc:TypeId×Value→H)(F:Stop.Interp):ReturnsInHanded {} Tryz.checked os 4 .any ((OpenSpec.ofChange Rows.canonicalVerifySpec).preRow enc prog Tryz.f4 Rows.canonicalVerifyRow.domain false Rows.canonicalVerifyRow.laid) (((OpenSpec.ofChange Rows.canonicalVerifySpec).at F).post enc prog Tryz.f4 false true false false):=by
 obtain⟨places,hx⟩:=reads os enc;refine returnsInHanded_of_row (C:=Tryz.checked) (s:=OpenSpec.ofChange Rows.canonicalVerifySpec) own started (by kernel_rfl) func4
  (Yh0 (enc:=enc) #[Value.agg Yc8,.agg Yc7] (World.shaped_of_ZipB (by kernel_rfl) (by kernel_rfl)) (by kernel_rfl)
   (OpenSpec.preRow_of_cond 8 hx (by kernel_rfl) (fun k hk=>by cases hk) (by kernel_rfl) (laidMet_laidAll _ (Yox os) (Ymc os)))) ?_
 intro W base args ds gs before hval hW _ _ hwt hL hS _;exact contract H enc W base args ds gs before hval hW hwt hL hS
theorem said:Rows.CanonicalVerifySaid:=
 OpenClaim.holds_of_cond 4 Tryz.f4 rfl rfl rfl rfl rfl rfl rfl ⟨rfl,rfl,rfl,rfl,rfl⟩ rfl rfl rfl rfl rfl (by kernel_rfl) func4 (by kernel_rfl)
  (of_decide_eq_true (by kernel_rfl)) (by unfold Func.isWrapper;first|(rw[qP (by decide+kernel)];kernel_rfl)|(rw[qN (by decide+kernel)];exact⟨rfl,rfl⟩))
  (fun os started H enc _ F=>by rw[OpenClaim.pre_eq_preRow];exact lifted os started H enc F)
theorem plain (f : FuncId)(fn : Func)(hf : Tryz.pinned.checked.prog.funcNamed "bulletin/bulletinlaw18.CanonicalVerify" = some f)(hfn : Tryz.pinned.checked.prog.funcs[f]? = some fn) :
    false=Tryz.pinned.checked.prog.looks []∧∀(j:Nat) t,fn.params[j]?=some t→Tryz.pinned.checked.prog.wantsStandIn t=false:=by
  obtain rfl : f = 4 := Option.some.inj ((show prog.funcNamed "bulletin/bulletinlaw18.CanonicalVerify" = some 4 by kernel_rfl).symm.trans hf) |>.symm;obtain rfl:fn=Tryz.f4:=(Option.some.inj (func4.symm.trans hfn)).symm;refine⟨by kernel_rfl,fun j t ht=>?_⟩;rw[Tryz.params4] at ht;have hm:t∈#[28,55]:=Array.mem_of_getElem? ht;simp at hm;rcases hm with rfl|rfl;·exact(show prog.wantsStandIn 28=false by kernel_rfl)
  exact(show prog.wantsStandIn 55=false by kernel_rfl)
theorem card:Rows.CanonicalVerifyCardSaid:=
 Claim7.holds_tied_plain_at .later [] _ _ _ _ said (fun _ h=>by cases h) (by kernel_rfl) (fun _ h=>by cases h) canonicalVerify_row_tie rfl ⟨rfl,rfl⟩ (by kernel_rfl) rfl plain (by kernel_rfl)
end Go.Proofs.YtjolcnopipbkhaaGreatDoor.canonicalVerify
