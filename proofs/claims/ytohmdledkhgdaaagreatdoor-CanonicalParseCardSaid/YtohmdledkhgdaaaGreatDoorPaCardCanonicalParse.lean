/- Statement CanonicalParse: for every input the call of CanonicalParse returns true and its arguments read as before; the listed tables are as the program's text and the pinned constants lay them (the tied card). -/
import Derived.Test.YtohmdledkhgdaaaGreatDoorPa39
namespace Go.Proofs.YtohmdledkhgdaaaGreatDoor.canonicalParse
open Go.ChangeShapes Go.WideShapes Go.ChangeAt Go.RowKit
open Go.ChangeMaps (open_string shut_string)
set_option linter.unusedVariables false
set_option maxRecDepth 100000
theorem contract (H:Type) (enc:TypeId×Value→H) (W:World) (base:Nat) (args:Array Value) (ds gs:List (DataW H)) (before:List MemPlace)
    (hval:∀(j:Nat) t v,Tryz.f5.params[j]?=some t→args[j]?=some v→Value.okWide Tryz.prog W .any base t v)
    (hW:DataW.Whole enc Tryz.prog Tryz.f5.params.toList Rows.canonicalParseSpec.vars false W args.toList ds gs before)
    (hwt:(DataW.weightsEach Tryz.prog (Tryz.f5.params.toList++(OpenSpec.ofChange Rows.canonicalParseSpec).bare.plain.varTypes Tryz.prog) (ds++gs)).all (· ≤reachBytes)=true)
    (hL:laidMetH Tryz.prog Rows.canonicalParseRow.laid W) (hS:W.ShapedOpen Tryz.prog):
    Calls Tryz.prog 5 args W fun e W'=>∃v,e=.returned v∧Rows.canonicalParseSpec.post enc Tryz.prog Tryz.f5 false true false false W args v W':=by
 have hW':=hW
 obtain⟨p,q,hA0,hV,rfl,hfz,hnd⟩:=hW
 have hA:DataW.TrodAll enc Tryz.prog W 0 (fun _=>true) true Tryz.f5.params.toList args.toList ds p:=hA0
 rw[Tryz.params5] at hA hval hwt
 obtain⟨v0,vs0,d0,ds0,p0,q0,hargs,rfl,rfl,h0,r0⟩:=trodAll_cons hA
 obtain⟨v1,vs1,d1,ds1,p1,q1,rfl,rfl,rfl,h1,r1⟩:=trodAll_cons r0
 obtain⟨rfl,rfl,rfl⟩:=trodAll_nil r1
 obtain rfl:args=#[v0,v1]:=by cases args;simp_all
 obtain⟨rfl,rfl⟩:=trodVars_none hV
 have hw0:∀n∈d0.weights Tryz.prog 9,n≤reachBytes:=fun n hn=>by simpa using List.all_eq_true.1 hwt n (DataW.weights_mem_each (j:=0) rfl rfl n hn)
 obtain⟨a0,rfl,rfl,rfl,w0⟩:=open_string Tryz.underlying9 (hval 0 9 v0 rfl rfl) h0
 have k1:=h1
 have lt1:∀x∈p1,x.block<W.heap.size:=by obtain⟨m,hm⟩:=k1;exact DataW.trod_lt m _ _ _ hm
 have hw1:∀n∈d1.weights Tryz.prog 28,n≤reachBytes:=fun n hn=>by simpa using List.all_eq_true.1 hwt n (DataW.weights_mem_each (j:=1) rfl rfl n hn)
 obtain⟨c1,g1,s1,rfl,ha1⟩:=Xo6 (hval 1 28 v1 rfl rfl) h1 hw1
 clear hA0
 refine(Yhp W a0 c1 g1 s1 w0 ha1 (Yid (show laidMetH Tryz.prog laidL W from hL) hS)).mono fun e W' ⟨he,bel⟩=>?_
 subst he
 exact⟨_,rfl,_,_,_,[],_,[],hW',trodAll_mk1 (shut_bool Tryz.underlying4 _),(trodAll_cons_mk (shut_string Tryz.underlying9 w0) (trodAll_cons_mk (Below.trod Yfc (by kernel_rfl) (of_decide_eq_true (by kernel_rfl)) k1 bel lt1) trodAll_mk0)),rfl,bel.frame _,fun h=>by cases h⟩
def zeroD {H:Type}:DataW H:=.agg [.lit (.string []),.agg (List.replicate 16 (.lit (.int .u8 0))),.lit (.int .i64 0),.nil,.lit (.string []),.nil,.agg (List.replicate 32 (.lit (.int .u8 0))),.lit (.string []),.lit (.string []),.lit (.int .i64 0),.lit (.int .i64 0),.agg (List.replicate 16 (.lit (.int .u8 0))),.lit (.int .i64 0),.lit (.string [])]
theorem reads_any {H:Type} (enc:TypeId×Value→H) (W:World):DataW.whole enc Tryz.prog W Tryz.f5.params.toList Rows.canonicalParseSpec.vars false #[Value.string ⟨#[]⟩,.agg Xzv].toList 8=some ([.lit (.string []),zeroD],[],[]):=by kernel_rfl
theorem reads (os:Os) {H:Type} (enc:TypeId×Value→H):∃places,DataW.whole enc Tryz.prog ((World.laidAll Tryz.prog os laidL).forCall (fun _ _=>0) ⟨#[],#[Value.string ⟨#[]⟩,.agg Xzv],[]⟩).memory Tryz.f5.params.toList Rows.canonicalParseSpec.vars false #[Value.string ⟨#[]⟩,.agg Xzv].toList 8=some ([.lit (.string []),zeroD],[],places):=
 ⟨[],reads_any enc _⟩
theorem lifted (os:Os) (started:os.Started) (H:Type) (enc:TypeId×Value→H) (F:Stop.Interp):
    ReturnsInHanded {} Tryz.checked os 5 .any ((OpenSpec.ofChange Rows.canonicalParseSpec).preRow enc Tryz.prog Tryz.f5 Rows.canonicalParseRow.domain false Rows.canonicalParseRow.laid) (((OpenSpec.ofChange Rows.canonicalParseSpec).at F).post enc Tryz.prog Tryz.f5 false true false false):=by
 obtain⟨places,hx⟩:=reads os enc
 refine returnsInHanded_of_row (C:=Tryz.checked) (s:=OpenSpec.ofChange Rows.canonicalParseSpec) own started (by kernel_rfl) Tryz.func5
  (Yd0 (enc:=enc) #[Value.string ⟨#[]⟩,.agg Xzv] (World.shaped_of_ZipB (by kernel_rfl) (by kernel_rfl)) (by kernel_rfl)
   (OpenSpec.preRow_of_cond 8 hx (by kernel_rfl) (fun k hk=>by cases hk) (by kernel_rfl) (laidMet_laidAll _ (Ykf os) (Yhz os)))) ?_
 intro W base args ds gs before hval hW _ _ hwt hL hS _
 exact contract H enc W base args ds gs before hval hW hwt hL hS
theorem said:Rows.CanonicalParseSaid:=
 OpenClaim.holds_of_cond 5 Tryz.f5 rfl rfl rfl rfl rfl rfl rfl ⟨rfl,rfl,rfl,rfl,rfl⟩ rfl rfl rfl rfl rfl (by kernel_rfl) Tryz.func5 (by kernel_rfl)
  (of_decide_eq_true (by kernel_rfl)) (by unfold Func.isWrapper;first|(rw[if_pos (by decide+kernel)];kernel_rfl)|(rw[if_neg (by decide+kernel)];exact⟨rfl,rfl⟩))
  (fun os started H enc _ F=>by rw[OpenClaim.pre_eq_preRow];exact lifted os started H enc F)
theorem plain (f : FuncId) (fn : Func) (hf : Tryz.pinned.checked.prog.funcNamed "bulletin/bulletinlaw18.CanonicalParse" = some f) (hfn : Tryz.pinned.checked.prog.funcs[f]? = some fn) :
    false=Tryz.pinned.checked.prog.looks []∧∀(j:Nat) t,fn.params[j]?=some t→Tryz.pinned.checked.prog.wantsStandIn t=false:=by
  obtain rfl : f = 5 := Option.some.inj ((show Tryz.prog.funcNamed "bulletin/bulletinlaw18.CanonicalParse" = some 5 by kernel_rfl).symm.trans hf) |>.symm
  obtain rfl:fn=Tryz.f5:=(Option.some.inj (Tryz.func5.symm.trans hfn)).symm
  refine⟨by kernel_rfl,fun j t ht=>?_⟩
  rw[Tryz.params5] at ht
  have hm:t∈#[9,28]:=Array.mem_of_getElem? ht
  simp at hm
  rcases hm with rfl|rfl
  ·exact(show Tryz.prog.wantsStandIn 9=false by kernel_rfl)
  ·exact(show Tryz.prog.wantsStandIn 28=false by kernel_rfl)
theorem card:Rows.CanonicalParseCardSaid:=
 Claim7.holds_tied_plain_at .later [] _ _ _ _ said (fun _ h=>by cases h) (by kernel_rfl) (fun _ h=>by cases h) canonicalParse_row_tie rfl ⟨rfl,rfl⟩ (by kernel_rfl) rfl plain (by kernel_rfl)
end Go.Proofs.YtohmdledkhgdaaaGreatDoor.canonicalParse
