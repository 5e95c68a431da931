/- Statement CanonicalForm: for every input the call of CanonicalForm returns true and its arguments read as before; the listed tables are as the program's text and the pinned constants lay them (the tied card). -/
import Derived.Test.YtjolcnopipbkhaaGreatDoorFo19
namespace Go.Proofs.YtjolcnopipbkhaaGreatDoor.canonicalForm
open Go.Proofs.Tryz
open Go.ChangeShapes Go.WideShapes Go.ChangeAt Go.RowKit
open Go.ChangeMaps (open_string shut_string)
set_option linter.unusedVariables false
set_option maxHeartbeats 100000000
set_option maxRecDepth 100000
theorem contract (H:Type)(enc:TypeId×Value→H)(W:World)(base:Nat)(args:Array Value)(ds gs:List (DataW H))(before:List MemPlace)
    (hval:∀(j:Nat) t v,Tryz.f3.params[j]?=some t→args[j]?=some v→Value.okWide prog W .any base t v)
    (hW:DataW.Whole enc prog Tryz.f3.params.toList Rows.canonicalFormSpec.vars false W args.toList ds gs before)
    (hwt:(DataW.weightsEach prog (Tryz.f3.params.toList++(OpenSpec.ofChange Rows.canonicalFormSpec).bare.plain.varTypes prog) (ds++gs)).all (· ≤reachBytes)=true)
    (hL:laidMetH prog Rows.canonicalFormRow.laid W) (hS:W.ShapedOpen prog):
    Calls prog 3 args W fun e W'=>∃v,e=.returned v∧Rows.canonicalFormSpec.post enc prog Tryz.f3 false true false false W args v W':=by
 have hW':=hW
 obtain⟨p,q,hA0,hV,rfl,hfz,hnd⟩:=hW
 have hA:DataW.TrodAll enc prog W 0 (fun _=>true) true Tryz.f3.params.toList args.toList ds p:=hA0
 rw[Tryz.params3] at hA hval hwt
 obtain⟨v0,vs0,d0,ds0,p0,q0,hargs,rfl,rfl,h0,r0⟩:=trodAll_cons hA
 obtain⟨rfl,rfl,rfl⟩:=trodAll_nil r0
 obtain rfl:args=#[v0]:=by cases args;simp_all
 obtain⟨rfl,rfl⟩:=trodVars_none hV
 have k0:=h0
 have lt0:∀x∈p0,x.block<W.heap.size:=by obtain⟨m,hm⟩:=k0;exact DataW.trod_lt m _ _ _ hm
 have hw0:∀n∈d0.weights prog 28,n≤reachBytes:=fun n hn=>by simpa using List.all_eq_true.1 hwt n (DataW.weights_mem_each (j:=0) rfl rfl n hn)
 obtain⟨c0,g0,s0,rfl,ha0⟩:=Xql (hval 0 28 v0 rfl rfl) h0 hw0
 clear hA0
 refine(Ykn W c0 g0 s0 ha0 (Ylb (show laidMetH prog laidL W from hL) hS)).mono fun e W' ⟨he,bel⟩=>?_
 subst he
 exact⟨_,rfl,_,_,_,[],_,[],hW',trodAll_mk1 (shut_bool underlying4 _),(trodAll_cons_mk (Below.trod Yh5 (by kernel_rfl) (of_decide_eq_true (by kernel_rfl)) k0 bel lt0) trodAll_mk0),rfl,bel.frame _,fun h=>by cases h⟩
def zeroD {H:Type}:DataW H:=.agg [.lit (.string []),.agg (List.replicate 16 (.lit (.int .u8 0))),.lit (.int .i64 0),.nil,.lit (.string []),.nil,.agg (List.replicate 32 (.lit (.int .u8 0))),.lit (.string []),.lit (.string []),.lit (.int .i64 0),.lit (.int .i64 0),.agg (List.replicate 16 (.lit (.int .u8 0))),.lit (.int .i64 0),.lit (.string [])]
theorem reads_any {H:Type}(enc:TypeId×Value→H)(W:World):DataW.whole enc prog W Tryz.f3.params.toList Rows.canonicalFormSpec.vars false #[Value.agg Yca].toList 8=some ([zeroD],[],[]):=by kernel_rfl
theorem reads (os:Os){H:Type}(enc:TypeId×Value→H):∃places,DataW.whole enc prog ((World.laidAll prog os laidL).forCall (fun _ _=>0) ⟨#[],#[Value.agg Yca],[]⟩).memory Tryz.f3.params.toList Rows.canonicalFormSpec.vars false #[Value.agg Yca].toList 8=some ([zeroD],[],places):=
 ⟨[],reads_any enc _⟩
theorem lifted (os:Os)(started:os.Started)(H:Type)(enc:TypeId×Value→H)(F:Stop.Interp):
    ReturnsInHanded {} Tryz.checked os 3 .any ((OpenSpec.ofChange Rows.canonicalFormSpec).preRow enc prog Tryz.f3 Rows.canonicalFormRow.domain false Rows.canonicalFormRow.laid) (((OpenSpec.ofChange Rows.canonicalFormSpec).at F).post enc prog Tryz.f3 false true false false):=by
 obtain⟨places,hx⟩:=reads os enc
 refine returnsInHanded_of_row (C:=Tryz.checked) (s:=OpenSpec.ofChange Rows.canonicalFormSpec) own started (by kernel_rfl) func3
  (Ygp (enc:=enc) #[Value.agg Yca] (World.shaped_of_ZipB (by kernel_rfl) (by kernel_rfl)) (by kernel_rfl)
   (OpenSpec.preRow_of_cond 8 hx (by kernel_rfl) (fun k hk=>by cases hk) (by kernel_rfl) (laidMet_laidAll _ (Ynl os) (Ykw os)))) ?_
 intro W base args ds gs before hval hW _ _ hwt hL hS _
 exact contract H enc W base args ds gs before hval hW hwt hL hS
theorem said:Rows.CanonicalFormSaid:=
 OpenClaim.holds_of_cond 3 Tryz.f3 rfl rfl rfl rfl rfl rfl rfl ⟨rfl,rfl,rfl,rfl,rfl⟩ rfl rfl rfl rfl rfl (by kernel_rfl) func3 (by kernel_rfl)
  (of_decide_eq_true (by kernel_rfl)) (by unfold Func.isWrapper;first|(rw[qP (by decide+kernel)];kernel_rfl)|(rw[qN (by decide+kernel)];exact⟨rfl,rfl⟩))
  (fun os started H enc _ F=>by rw[OpenClaim.pre_eq_preRow];exact lifted os started H enc F)
theorem plain (f : FuncId)(fn : Func)(hf : Tryz.pinned.checked.prog.funcNamed "bulletin/bulletinlaw18.CanonicalForm" = some f)(hfn : Tryz.pinned.checked.prog.funcs[f]? = some fn) :
    false=Tryz.pinned.checked.prog.looks []∧∀(j:Nat) t,fn.params[j]?=some t→Tryz.pinned.checked.prog.wantsStandIn t=false:=by
  obtain rfl : f = 3 := Option.some.inj ((show prog.funcNamed "bulletin/bulletinlaw18.CanonicalForm" = some 3 by kernel_rfl).symm.trans hf) |>.symm
  obtain rfl:fn=Tryz.f3:=(Option.some.inj (func3.symm.trans hfn)).symm
  refine⟨by kernel_rfl,fun j t ht=>?_⟩
  rw[Tryz.params3] at ht
  have hm:t∈#[28]:=Array.mem_of_getElem? ht
  simp at hm
  subst hm
  exact(show prog.wantsStandIn 28=false by kernel_rfl)
theorem card:Rows.CanonicalFormCardSaid:=
 Claim7.holds_tied_plain_at .later [] _ _ _ _ said (fun _ h=>by cases h) (by kernel_rfl) (fun _ h=>by cases h) canonicalForm_row_tie rfl ⟨rfl,rfl⟩ (by kernel_rfl) rfl plain (by kernel_rfl)
end Go.Proofs.YtjolcnopipbkhaaGreatDoor.canonicalForm
