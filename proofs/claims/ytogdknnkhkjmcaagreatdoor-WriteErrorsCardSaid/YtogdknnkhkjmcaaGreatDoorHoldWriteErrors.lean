/- The statement on WriteErrors, and its card: the call returns true and leaves what it was handed as it was. -/
import Derived.Test.YtogdknnkhkjmcaaGreatDoorKLwO
import Derived.Test.YtogdknnkhkjmcaaGreatDoorKLwE3
import Derived.Test.YtogdknnkhkjmcaaGreatDoorCards
import Derived.Test.YtogdknnkhkjmcaaGreatDoorTie
namespace Go.Proofs.YtogdknnkhkjmcaaGreatDoor
open Go.RowKit Go.ChangeShapes Go.WideShapes Go.ChangeAt Go.Deep
set_option linter.all false
theorem tab_writeErrors {W:World}(h:laidMetH Tryz.prog Rows.writeErrorsRow.laid W):FoldTab W:=foldTab_of (l:=Rows.writeErrorsRow.laid) h (by unfold Rows.writeErrorsRow;simp) (by unfold Rows.writeErrorsRow;simp) (by unfold Rows.writeErrorsRow;simp)
theorem pool_writeErrors {W:World}(h:laidMetH Tryz.prog Rows.writeErrorsRow.laid W):PTab W:=pTab_of (l:=Rows.writeErrorsRow.laid) h (by unfold Rows.writeErrorsRow;simp)
theorem writeErrors_met (os:Os):laidMet Tryz.prog Rows.writeErrorsRow.laid ((laidWorld12 os).forCall (fun _ _=>0) ⟨#[],#[.int .u8 0,.int .u8 0,.slice none 0 0,.bool false],[]⟩).memory:=
 laidMet_of_run' 8 (by kernel_rfl) (by kernel_rfl)
theorem writeErrors_reads (os:Os){H:Type}(enc:TypeId×Value→H):∃places,DataW.whole enc Tryz.prog ((laidWorld12 os).forCall (fun _ _=>0) ⟨#[],#[.int .u8 0,.int .u8 0,.slice none 0 0,.bool false],[]⟩).memory Tryz.f6.params.toList Rows.writeErrorsSpec.vars false (#[.int .u8 0,.int .u8 0,.slice none 0 0,.bool false]:Array Value).toList 8=some ([.lit (.int .u8 0),.lit (.int .u8 0),.nil,.lit (.bool false)],[],places):=
 ⟨[],by kernel_rfl⟩
set_option maxRecDepth 100000 in
theorem writeErrors_lifted (os:Os)(started:os.Started)(H:Type)(enc:TypeId×Value→H)(F:Stop.Interp):
  ReturnsInHanded {} Tryz.checked os 6 .any ((OpenSpec.ofChange Rows.writeErrorsSpec).preRow enc Tryz.prog Tryz.f6 Rows.writeErrorsRow.domain false Rows.writeErrorsRow.laid) (((OpenSpec.ofChange Rows.writeErrorsSpec).at F).post enc Tryz.prog Tryz.f6 false true false false):=by
 obtain⟨places,hx⟩:=writeErrors_reads os enc;refine returnsInHanded_of_row (C:=Tryz.checked) (s:=OpenSpec.ofChange Rows.writeErrorsSpec) Tryz.own started (by kernel_rfl) Tryz.func6
  (witness_row_at (enc:=enc) (C:=Tryz.checked) false (laidWorld12 os) #[.int .u8 0,.int .u8 0,.slice none 0 0,.bool false] rfl (by kernel_rfl) (by kernel_rfl) (by kernel_rfl)
   (OpenSpec.preRow_of_cond 8 hx (by kernel_rfl) (fun k hk=>by cases hk) (by kernel_rfl) (writeErrors_met os))) ?_
 intro W base args ds gs before hval0 hW _ _ _ hL _ _;have hval:∀(j:Nat) t v,Tryz.f6.params[j]? =some t→args[j]? =some v→Value.okWide Tryz.prog W .any base t v:=hval0;have hW':=hW;obtain⟨p,q,hA0,hV,rfl,hfz,hnd⟩:=hW;have hA:DataW.TrodAll enc Tryz.prog W 0 (fun _=>true) true Tryz.f6.params.toList args.toList ds p:=hA0;rw[Tryz.params6]at hA hval;obtain⟨v0,vs0,d0,ds0,p0,q0,hargs,rfl,rfl,h0,r0⟩:=trodAll_cons hA
 obtain⟨v1,vs1,d1,ds1,p1,q1,rfl,rfl,rfl,h1,r1⟩:=trodAll_cons r0;obtain⟨v2,vs2,d2,ds2,p2,q2,rfl,rfl,rfl,h2,r2⟩:=trodAll_cons r1;obtain⟨v3,vs3,d3,ds3,p3,q3,rfl,rfl,rfl,h3,r3⟩:=trodAll_cons r2;obtain⟨rfl,rfl,rfl⟩:=trodAll_nil r3;obtain rfl:args=#[v0,v1,v2,v3]:=by cases args;simp_all
 obtain⟨rfl,rfl⟩:=trodVars_none hV;simp only[List.append_nil]at hW';have k0:=h0;have k1:=h1;have k2:=h2;have k3:=h3;have hlt0:∀x∈p0,x.block<W.heap.size:=fun x hx=>by simpa using hW'.lt x (by simp[hx])
 have hlt1:∀x∈p1,x.block<W.heap.size:=fun x hx=>by simpa using hW'.lt x (by simp[hx])
 have hlt2:∀x∈p2,x.block<W.heap.size:=fun x hx=>by simpa using hW'.lt x (by simp[hx])
 have hlt3:∀x∈p3,x.block<W.heap.size:=fun x hx=>by simpa using hW'.lt x (by simp[hx])
 obtain⟨a0,rfl,rfl,rfl,w0⟩:=open_int Tryz.underlying5 (hval 0 5 v0 rfl rfl) h0;have b0:=bounds_u8 w0;obtain⟨a1,rfl,rfl,rfl,w1⟩:=open_int Tryz.underlying5 (hval 1 5 v1 rfl rfl) h1;have b1:=bounds_u8 w1;obtain⟨A2,c2,l2,rfl,w2,s2⟩:=open_intS .u32 Tryz.underlying47 Tryz.underlying32 (by kernel_rfl) (hval 2 47 v2 rfl rfl) h2
 obtain⟨a3,rfl,rfl,rfl⟩:=open_bool Tryz.underlying4 (hval 3 4 v3 rfl rfl) h3;clear hA0 hval0;have hwalk:Calls Tryz.prog 6 #[.int .u8 a0,.int .u8 a1,.slice A2 l2.length c2,.bool a3] W fun e W'=>e= .returned (.bool true)∧Keeps (· <W.heap.size) W W':=by
  obtain⟨n0,hn0⟩:∃n:Nat,a0=(n:Int):=⟨a0.toNat,by omega⟩
  obtain⟨n1,hn1⟩:∃n:Nat,a1=(n:Int):=⟨a1.toNat,by omega⟩
  rw[hn0,hn1];exact law_errors n0 n1 (by omega) (by omega) l2 A2 c2 a3 W (pool_writeErrors hL) (tab_writeErrors hL) s2 (fun x hx=>bounds_u32 (w2 x hx))
 refine hwalk.mono fun e W' ⟨he,hg⟩=>?_;subst he;exact⟨_,rfl,_,_,_,_,_,[],hW',trodAll_cons_mk (shut_bool Tryz.underlying4 _) trodAll_mk0,trodAll_cons_mk (arg_kept (by kernel_rfl) (of_decide_eq_true (by kernel_rfl)) k0 hg hlt0) (trodAll_cons_mk (arg_kept (by kernel_rfl) (of_decide_eq_true (by kernel_rfl)) k1 hg hlt1) (trodAll_cons_mk (arg_kept (by kernel_rfl) (of_decide_eq_true (by kernel_rfl)) k2 hg hlt2) (trodAll_cons_mk (arg_kept (by kernel_rfl) (of_decide_eq_true (by kernel_rfl)) k3 hg hlt3) (trodAll_mk0)))),rfl,hg.below.frame _,fun h=>by cases h⟩
theorem writeErrors_said:Rows.WriteErrorsSaid:=
 OpenClaim.holds_of_cond 6 Tryz.f6 rfl rfl rfl rfl rfl rfl rfl ⟨rfl,rfl,rfl,rfl,rfl⟩ rfl rfl rfl rfl rfl (by kernel_rfl) Tryz.func6 (by kernel_rfl)
  (of_decide_eq_true (by kernel_rfl)) (by unfold Func.isWrapper;first|(rw[if_pos (by decide+kernel)];kernel_rfl)|(rw[if_neg (by decide+kernel)];exact⟨rfl,rfl⟩))
  (fun os started H enc _ F=>by rw[OpenClaim.pre_eq_preRow];exact writeErrors_lifted os started H enc F)
theorem writeErrors_plain (f : FuncId) (fn : Func) (hf : Tryz.pinned.checked.prog.funcNamed "plover/ploverlaw12.WriteErrors" = some f) (hfn : Tryz.pinned.checked.prog.funcs[f]? = some fn) :
  false=Tryz.pinned.checked.prog.looks []∧∀(j:Nat) t,fn.params[j]? =some t→Tryz.pinned.checked.prog.wantsStandIn t=false:=by
 obtain rfl : f = 6 := Option.some.inj ((show Tryz.prog.funcNamed "plover/ploverlaw12.WriteErrors" = some 6 by kernel_rfl).symm.trans hf) |>.symm
 obtain rfl:fn=Tryz.f6:=(Option.some.inj (Tryz.func6.symm.trans hfn)).symm;refine⟨by kernel_rfl,fun j t ht=>?_⟩
 rw[Tryz.params6]at ht;have ht':t=5∨t=5∨t=47∨t=4:=by simpa using Array.mem_of_getElem? ht
 rcases ht' with rfl|rfl|rfl|rfl
 ·exact(show Tryz.prog.wantsStandIn 5=false by kernel_rfl)
 ·exact(show Tryz.prog.wantsStandIn 5=false by kernel_rfl)
 ·exact(show Tryz.prog.wantsStandIn 47=false by kernel_rfl)
 ·exact(show Tryz.prog.wantsStandIn 4=false by kernel_rfl)
theorem writeErrors_holds:Rows.WriteErrorsCardSaid:=
 Claim7.holds_tied_plain_at .later [] _ _ _ _ writeErrors_said (fun _ h=>by cases h) (by kernel_rfl) (fun _ h=>by cases h) writeErrors_row_tie rfl ⟨rfl,rfl⟩ (by kernel_rfl) rfl writeErrors_plain (by kernel_rfl)
end Go.Proofs.YtogdknnkhkjmcaaGreatDoor
