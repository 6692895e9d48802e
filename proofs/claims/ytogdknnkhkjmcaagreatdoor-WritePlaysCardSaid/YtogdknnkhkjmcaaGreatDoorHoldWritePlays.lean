/- The statement on WritePlays, and its card: the call returns true and leaves what it was handed as it was. -/
import Derived.Test.YtogdknnkhkjmcaaGreatDoorJLwO
import Derived.Test.YtogdknnkhkjmcaaGreatDoorCards
import Derived.Test.YtogdknnkhkjmcaaGreatDoorTie
namespace Go.Proofs.YtogdknnkhkjmcaaGreatDoor
open Go.RowKit Go.ChangeShapes Go.WideShapes Go.ChangeAt Go.Deep
set_option linter.all false
theorem tab_writePlays {W:World}(h:laidMetH Tryz.prog Rows.writePlaysRow.laid W):FoldTab W:=foldTab_of (l:=Rows.writePlaysRow.laid) h (by unfold Rows.writePlaysRow;simp) (by unfold Rows.writePlaysRow;simp) (by unfold Rows.writePlaysRow;simp)
theorem pool_writePlays {W:World}(h:laidMetH Tryz.prog Rows.writePlaysRow.laid W):PTab W:=pTab_of (l:=Rows.writePlaysRow.laid) h (by unfold Rows.writePlaysRow;simp)
theorem writePlays_met (os:Os):laidMet Tryz.prog Rows.writePlaysRow.laid ((laidWorld12 os).forCall (fun _ _=>0) ⟨#[],#[.agg #[I 0,I 0,I 0,I 0,I 0,I 0,I 0,I 0,.float .f64 0,.float .f64 0],.slice none 0 0],[]⟩).memory:=
 laidMet_of_run' 8 (by kernel_rfl) (by kernel_rfl)
theorem writePlays_reads (os:Os){H:Type}(enc:TypeId×Value→H):∃places,DataW.whole enc Tryz.prog ((laidWorld12 os).forCall (fun _ _=>0) ⟨#[],#[.agg #[I 0,I 0,I 0,I 0,I 0,I 0,I 0,I 0,.float .f64 0,.float .f64 0],.slice none 0 0],[]⟩).memory Tryz.f3.params.toList Rows.writePlaysSpec.vars false (#[.agg #[I 0,I 0,I 0,I 0,I 0,I 0,I 0,I 0,.float .f64 0,.float .f64 0],.slice none 0 0]:Array Value).toList 8=some ([.agg [.lit (I 0),.lit (I 0),.agg [.lit (I 0),.lit (I 0),.lit (I 0),.lit (I 0)],.lit (I 0),.lit (I 0),.lit (.float .f64 0),.lit (.float .f64 0)],.nil],[],places):=
 ⟨[],by kernel_rfl⟩
set_option maxRecDepth 100000 in
theorem writePlays_lifted (os:Os)(started:os.Started)(H:Type)(enc:TypeId×Value→H)(F:Stop.Interp):
  ReturnsInHanded {} Tryz.checked os 3 .any ((OpenSpec.ofChange Rows.writePlaysSpec).preRow enc Tryz.prog Tryz.f3 Rows.writePlaysRow.domain false Rows.writePlaysRow.laid) (((OpenSpec.ofChange Rows.writePlaysSpec).at F).post enc Tryz.prog Tryz.f3 false true false false):=by
 obtain⟨places,hx⟩:=writePlays_reads os enc;refine returnsInHanded_of_row (C:=Tryz.checked) (s:=OpenSpec.ofChange Rows.writePlaysSpec) Tryz.own started (by kernel_rfl) Tryz.func3
  (witness_row_at (enc:=enc) (C:=Tryz.checked) false (laidWorld12 os) #[.agg #[I 0,I 0,I 0,I 0,I 0,I 0,I 0,I 0,.float .f64 0,.float .f64 0],.slice none 0 0] rfl (by kernel_rfl) (by kernel_rfl) (by kernel_rfl)
   (OpenSpec.preRow_of_cond 8 hx (by kernel_rfl) (fun k hk=>by cases hk) (by kernel_rfl) (writePlays_met os))) ?_
 intro W base args ds gs before hval0 hW _ _ hsz0 hL _ _;have hsz:(DataW.weightsEach Tryz.prog (Tryz.f3.params.toList++(OpenSpec.ofChange Rows.writePlaysSpec).bare.plain.varTypes Tryz.prog) (ds++gs)).all (· ≤reachBytes)=true:=hsz0;have hval:∀(j:Nat) t v,Tryz.f3.params[j]? =some t→args[j]? =some v→Value.okWide Tryz.prog W .any base t v:=hval0;have hW':=hW;obtain⟨p,q,hA0,hV,rfl,hfz,hnd⟩:=hW
 have hA:DataW.TrodAll enc Tryz.prog W 0 (fun _=>true) true Tryz.f3.params.toList args.toList ds p:=hA0;rw[Tryz.params3]at hA hval hsz;obtain⟨v0,vs0,d0,ds0,p0,q0,hargs,rfl,rfl,h0,r0⟩:=trodAll_cons hA;obtain⟨v1,vs1,d1,ds1,p1,q1,rfl,rfl,rfl,h1,r1⟩:=trodAll_cons r0;obtain⟨rfl,rfl,rfl⟩:=trodAll_nil r1;obtain rfl:args=#[v0,v1]:=by cases args;simp_all
 obtain⟨rfl,rfl⟩:=trodVars_none hV;simp only[List.append_nil]at hW';have k0:=h0;have k1:=h1;have hlt0:∀x∈p0,x.block<W.heap.size:=fun x hx=>by simpa using hW'.lt x (by simp[hx])
 have hlt1:∀x∈p1,x.block<W.heap.size:=fun x hx=>by simpa using hW'.lt x (by simp[hx])
 obtain⟨a0,rfl⟩:=open_conf (hval 0 25 v0 rfl rfl) h0;obtain⟨A1,c1,l1,rfl,w10,s1⟩:=open_ops (hval 1 26 v1 rfl rfl) h1;have w1:=w10 fun m hm=>Nat.le_trans (of_decide_eq_true (List.all_eq_true.1 hsz m (DataW.weights_mem_each (j:=1) rfl rfl m hm))) (by decide)
 clear hA0 hval0;have hwalk:Calls Tryz.prog 3 #[.agg a0.list.toArray,.slice A1 l1.length c1] W fun e W'=>e= .returned (.bool true)∧Keeps (· <W.heap.size) W W':=by
  exact law_plays a0 l1 A1 c1 W (pool_writePlays hL) (tab_writePlays hL) s1 w1
 refine hwalk.mono fun e W' ⟨he,hg⟩=>?_;subst he;exact⟨_,rfl,_,_,_,_,_,[],hW',trodAll_cons_mk (shut_bool Tryz.underlying4 _) trodAll_mk0,trodAll_cons_mk (arg_kept (by kernel_rfl) (of_decide_eq_true (by kernel_rfl)) k0 hg hlt0) (trodAll_cons_mk (arg_kept (by kernel_rfl) (of_decide_eq_true (by kernel_rfl)) k1 hg hlt1) (trodAll_mk0)),rfl,hg.below.frame _,fun h=>by cases h⟩
theorem writePlays_said:Rows.WritePlaysSaid:=
 OpenClaim.holds_of_cond 3 Tryz.f3 rfl rfl rfl rfl rfl rfl rfl ⟨rfl,rfl,rfl,rfl,rfl⟩ rfl rfl rfl rfl rfl (by kernel_rfl) Tryz.func3 (by kernel_rfl)
  (of_decide_eq_true (by kernel_rfl)) (by unfold Func.isWrapper;first|(rw[if_pos (by decide+kernel)];kernel_rfl)|(rw[if_neg (by decide+kernel)];exact⟨rfl,rfl⟩))
  (fun os started H enc _ F=>by rw[OpenClaim.pre_eq_preRow];exact writePlays_lifted os started H enc F)
theorem writePlays_plain (f : FuncId) (fn : Func) (hf : Tryz.pinned.checked.prog.funcNamed "plover/ploverlaw12.WritePlays" = some f) (hfn : Tryz.pinned.checked.prog.funcs[f]? = some fn) :
  false=Tryz.pinned.checked.prog.looks []∧∀(j:Nat) t,fn.params[j]? =some t→Tryz.pinned.checked.prog.wantsStandIn t=false:=by
 obtain rfl : f = 3 := Option.some.inj ((show Tryz.prog.funcNamed "plover/ploverlaw12.WritePlays" = some 3 by kernel_rfl).symm.trans hf) |>.symm
 obtain rfl:fn=Tryz.f3:=(Option.some.inj (Tryz.func3.symm.trans hfn)).symm;refine⟨by kernel_rfl,fun j t ht=>?_⟩
 rw[Tryz.params3]at ht;have ht':t=25∨t=26:=by simpa using Array.mem_of_getElem? ht
 rcases ht' with rfl|rfl
 ·exact(show Tryz.prog.wantsStandIn 25=false by kernel_rfl)
 ·exact(show Tryz.prog.wantsStandIn 26=false by kernel_rfl)
theorem writePlays_holds:Rows.WritePlaysCardSaid:=
 Claim7.holds_tied_plain_at .later [] _ _ _ _ writePlays_said (fun _ h=>by cases h) (by kernel_rfl) (fun _ h=>by cases h) writePlays_row_tie rfl ⟨rfl,rfl⟩ (by kernel_rfl) rfl writePlays_plain (by kernel_rfl)
end Go.Proofs.YtogdknnkhkjmcaaGreatDoor
