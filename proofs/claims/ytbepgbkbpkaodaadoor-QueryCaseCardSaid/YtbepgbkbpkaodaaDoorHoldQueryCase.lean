/- The statement on QueryCase, and its card: the call returns true and leaves what it was handed as it was. -/
import Derived.Test.YtbepgbkbpkaodaaDoorCase
import Derived.Test.YtbepgbkbpkaodaaDoorFoldL
import Derived.Test.YtbepgbkbpkaodaaDoorOpenB
import Derived.Test.YtbepgbkbpkaodaaDoorCards
import Derived.Test.YtbepgbkbpkaodaaDoorTie
import Derived.WalkKit
import Derived.ProofKit
import Derived.OpenShut
import Derived.ChangeMaps5
import Derived.Deep.DeepHandedRow
import Derived.Lib.LaidTab
namespace Go.Proofs.YtbepgbkbpkaodaaDoor
open Go.ChangeMaps (open_string)
open Go.RowKit Go.ChangeShapes Go.WideShapes Go.ChangeAt Go.Deep

theorem tab_queryCase {W : World} (h : laidMetH Tryd.prog Rows.queryCaseRow.laid W) : FoldTab W := foldTab_of (l := Rows.queryCaseRow.laid) h (by unfold Rows.queryCaseRow; simp) (by unfold Rows.queryCaseRow; simp) (by unfold Rows.queryCaseRow; simp)
theorem queryCase_met (os : Os) : laidMet Tryd.prog Rows.queryCaseRow.laid ((laidWorld os).forCall (fun _ _ => 0) ⟨#[], #[.string ⟨#[]⟩], []⟩).memory :=
  laidMet_of_run' 8 (by kernel_rfl) (by kernel_rfl)
theorem queryCase_reads (os : Os) {H : Type} (enc : TypeId × Value → H) : ∃ places, DataW.whole enc Tryd.prog ((laidWorld os).forCall (fun _ _ => 0) ⟨#[], #[.string ⟨#[]⟩], []⟩).memory Tryd.f4.params.toList Rows.queryCaseSpec.vars false (#[.string ⟨#[]⟩] : Array Value).toList 8 = some ([.lit (.string [])], [], places) :=
  ⟨[], by kernel_rfl⟩

set_option maxRecDepth 100000 in
theorem queryCase_lifted (os : Os) (started : os.Started) (H : Type) (enc : TypeId × Value → H) (F : Stop.Interp) :
    ReturnsInHanded {} Tryd.checked os 4 .any ((OpenSpec.ofChange Rows.queryCaseSpec).preRow enc Tryd.prog Tryd.f4 Rows.queryCaseRow.domain false Rows.queryCaseRow.laid) (((OpenSpec.ofChange Rows.queryCaseSpec).at F).post enc Tryd.prog Tryd.f4 false true false false) := by
  obtain ⟨places, hx⟩ := queryCase_reads os enc
  refine returnsInHanded_of_row (C := Tryd.checked) (s := OpenSpec.ofChange Rows.queryCaseSpec) Tryd.own started (by kernel_rfl) Tryd.func4
    (witness_row_at (enc := enc) (C := Tryd.checked) false (laidWorld os) #[.string ⟨#[]⟩] rfl (by kernel_rfl) (by kernel_rfl) (by kernel_rfl)
      (OpenSpec.preRow_of_cond 8 hx (by kernel_rfl) (fun k hk => by cases hk) (by kernel_rfl) (queryCase_met os))) ?_
  intro W base args ds gs before hval0 hW _ _ _ hL _ _
  have hval : ∀ (j : Nat) t v, Tryd.f4.params[j]? = some t → args[j]? = some v → Value.okWide Tryd.prog W .any base t v := hval0
  have hW' := hW
  obtain ⟨p, q, hA0, hV, rfl, hfz, hnd⟩ := hW
  have hA : DataW.TrodAll enc Tryd.prog W 0 (fun _ => true) true Tryd.f4.params.toList args.toList ds p := hA0
  rw [Tryd.params4] at hA hval
  obtain ⟨v0, vs0, d0, ds0, p0, q0, hargs, rfl, rfl, h0, r0⟩ := trodAll_cons hA
  obtain ⟨rfl, rfl, rfl⟩ := trodAll_nil r0
  obtain rfl : args = #[v0] := by cases args; simp_all
  obtain ⟨rfl, rfl⟩ := trodVars_none hV
  simp only [List.append_nil] at hW'
  have k0 := h0
  have hlt0 : ∀ x ∈ p0, x.block < W.heap.size := fun x hx => by simpa using hW'.lt x (by simp [hx])
  obtain ⟨a0, rfl, rfl, rfl, w0⟩ := open_string Tryd.underlying9 (hval 0 9 v0 rfl rfl) h0
  clear hA0 hval0
  have hwalk : Calls Tryd.prog 4 #[.string a0] W fun e W' => e = .returned (.bool true) ∧ Keeps (· < W.heap.size) W W' := by
    exact law17_case a0 W (tab_queryCase hL)
  refine hwalk.mono fun e W' ⟨he, hg⟩ => ?_
  subst he
  exact ⟨_, rfl, _, _, _, _, _, [], hW', trodAll_cons_mk (shut_bool Tryd.underlying4 _) trodAll_mk0, trodAll_cons_mk (arg_kept (by kernel_rfl) (of_decide_eq_true (by kernel_rfl)) k0 hg hlt0) (trodAll_mk0), rfl, hg.below.frame _, fun h => by cases h⟩

theorem queryCase_said : Rows.QueryCaseSaid :=
  OpenClaim.holds_of_cond 4 Tryd.f4 rfl rfl rfl rfl rfl rfl rfl ⟨rfl, rfl, rfl, rfl, rfl⟩ rfl rfl rfl rfl rfl (by kernel_rfl) Tryd.func4 (by kernel_rfl)
    (of_decide_eq_true (by kernel_rfl)) (by unfold Func.isWrapper; first | (rw [if_pos (by decide +kernel)]; kernel_rfl) | (rw [if_neg (by decide +kernel)]; exact ⟨rfl, rfl⟩))
    (fun os started H enc _ F => by rw [OpenClaim.pre_eq_preRow]; exact queryCase_lifted os started H enc F)

theorem queryCase_plain (f : FuncId) (fn : Func) (hf : Tryd.pinned.checked.prog.funcNamed "plover/ploverlaw17.QueryCase" = some f) (hfn : Tryd.pinned.checked.prog.funcs[f]? = some fn) :
    true = Tryd.pinned.checked.prog.looks [] ∧ ∀ (j : Nat) t, fn.params[j]? = some t → Tryd.pinned.checked.prog.wantsStandIn t = false := by
  obtain rfl : f = 4 := Option.some.inj ((show Tryd.prog.funcNamed "plover/ploverlaw17.QueryCase" = some 4 by kernel_rfl).symm.trans hf) |>.symm
  obtain rfl : fn = Tryd.f4 := (Option.some.inj (Tryd.func4.symm.trans hfn)).symm
  refine ⟨by kernel_rfl, fun j t ht => ?_⟩
  rw [Tryd.params4] at ht
  have ht' : t = 9 := by simpa using Array.mem_of_getElem? ht
  rcases ht' with rfl
  · exact (show Tryd.prog.wantsStandIn 9 = false by kernel_rfl)

theorem queryCase_holds : Rows.QueryCaseCardSaid :=
  Claim7.holds_tied_plain_at .later [] _ _ _ _ queryCase_said (fun _ h => by cases h) (by kernel_rfl) (fun _ h => by cases h) queryCase_row_tie rfl ⟨rfl, rfl⟩ (by kernel_rfl) rfl queryCase_plain (by kernel_rfl)
end Go.Proofs.YtbepgbkbpkaodaaDoor
