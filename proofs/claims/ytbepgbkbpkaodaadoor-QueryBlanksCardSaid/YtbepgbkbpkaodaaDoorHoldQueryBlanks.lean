/- The statement on QueryBlanks, and its card: the call returns true and leaves what it was handed as it was. -/
import Derived.Test.YtbepgbkbpkaodaaDoorBlank
import Derived.Test.YtbepgbkbpkaodaaDoorFoldL
import Derived.Test.YtbepgbkbpkaodaaDoorOpenB
import Derived.Test.YtbepgbkbpkaodaaDoorCards
import Derived.Test.YtbepgbkbpkaodaaDoorTie
import Derived.WalkKit
import Derived.ProofKit
import Derived.OpenShut
import Derived.ChangeMaps5
import Derived.Deep.DeepHandedRow
import Derived.Lib.LaidTab
namespace Go.Proofs.YtbepgbkbpkaodaaDoor
open Go.ChangeMaps (open_string)
open Go.RowKit Go.ChangeShapes Go.WideShapes Go.ChangeAt Go.Deep

theorem tab_queryBlanks {W : World} (h : laidMetH Tryd.prog Rows.queryBlanksRow.laid W) : FoldTab W := foldTab_of (l := Rows.queryBlanksRow.laid) h (by unfold Rows.queryBlanksRow; simp) (by unfold Rows.queryBlanksRow; simp) (by unfold Rows.queryBlanksRow; simp)
theorem queryBlanks_met (os : Os) : laidMet Tryd.prog Rows.queryBlanksRow.laid ((laidWorld os).forCall (fun _ _ => 0) ⟨#[], #[.string ⟨#[]⟩, .int .u8 0], []⟩).memory :=
  laidMet_of_run' 8 (by kernel_rfl) (by kernel_rfl)
theorem queryBlanks_reads (os : Os) {H : Type} (enc : TypeId × Value → H) : ∃ places, DataW.whole enc Tryd.prog ((laidWorld os).forCall (fun _ _ => 0) ⟨#[], #[.string ⟨#[]⟩, .int .u8 0], []⟩).memory Tryd.f3.params.toList Rows.queryBlanksSpec.vars false (#[.string ⟨#[]⟩, .int .u8 0] : Array Value).toList 8 = some ([.lit (.string []), .lit (.int .u8 0)], [], places) :=
  ⟨[], by kernel_rfl⟩

set_option maxRecDepth 100000 in
theorem queryBlanks_lifted (os : Os) (started : os.Started) (H : Type) (enc : TypeId × Value → H) (F : Stop.Interp) :
    ReturnsInHanded {} Tryd.checked os 3 .any ((OpenSpec.ofChange Rows.queryBlanksSpec).preRow enc Tryd.prog Tryd.f3 Rows.queryBlanksRow.domain false Rows.queryBlanksRow.laid) (((OpenSpec.ofChange Rows.queryBlanksSpec).at F).post enc Tryd.prog Tryd.f3 false true false false) := by
  obtain ⟨places, hx⟩ := queryBlanks_reads os enc
  refine returnsInHanded_of_row (C := Tryd.checked) (s := OpenSpec.ofChange Rows.queryBlanksSpec) Tryd.own started (by kernel_rfl) Tryd.func3
    (witness_row_at (enc := enc) (C := Tryd.checked) false (laidWorld os) #[.string ⟨#[]⟩, .int .u8 0] rfl (by kernel_rfl) (by kernel_rfl) (by kernel_rfl)
      (OpenSpec.preRow_of_cond 8 hx (by kernel_rfl) (fun k hk => by cases hk) (by kernel_rfl) (queryBlanks_met os))) ?_
  intro W base args ds gs before hval0 hW _ _ _ hL _ _
  have hval : ∀ (j : Nat) t v, Tryd.f3.params[j]? = some t → args[j]? = some v → Value.okWide Tryd.prog W .any base t v := hval0
  have hW' := hW
  obtain ⟨p, q, hA0, hV, rfl, hfz, hnd⟩ := hW
  have hA : DataW.TrodAll enc Tryd.prog W 0 (fun _ => true) true Tryd.f3.params.toList args.toList ds p := hA0
  rw [Tryd.params3] at hA hval
  obtain ⟨v0, vs0, d0, ds0, p0, q0, hargs, rfl, rfl, h0, r0⟩ := trodAll_cons hA
  obtain ⟨v1, vs1, d1, ds1, p1, q1, rfl, rfl, rfl, h1, r1⟩ := trodAll_cons r0
  obtain ⟨rfl, rfl, rfl⟩ := trodAll_nil r1
  obtain rfl : args = #[v0, v1] := by cases args; simp_all
  obtain ⟨rfl, rfl⟩ := trodVars_none hV
  simp only [List.append_nil] at hW'
  have k0 := h0
  have k1 := h1
  have hlt0 : ∀ x ∈ p0, x.block < W.heap.size := fun x hx => by simpa using hW'.lt x (by simp [hx])
  have hlt1 : ∀ x ∈ p1, x.block < W.heap.size := fun x hx => by simpa using hW'.lt x (by simp [hx])
  obtain ⟨a0, rfl, rfl, rfl, w0⟩ := open_string Tryd.underlying9 (hval 0 9 v0 rfl rfl) h0
  obtain ⟨a1, rfl, rfl, rfl, w1⟩ := open_int Tryd.underlying5 (hval 1 5 v1 rfl rfl) h1
  have b1 := bounds_u8 w1
  clear hA0 hval0
  have hwalk : Calls Tryd.prog 3 #[.string a0, .int .u8 a1] W fun e W' => e = .returned (.bool true) ∧ Keeps (· < W.heap.size) W W' := by
    exact law17_blanks a0 a1 b1 W (tab_queryBlanks hL)
  refine hwalk.mono fun e W' ⟨he, hg⟩ => ?_
  subst he
  exact ⟨_, rfl, _, _, _, _, _, [], hW', trodAll_cons_mk (shut_bool Tryd.underlying4 _) trodAll_mk0, trodAll_cons_mk (arg_kept (by kernel_rfl) (of_decide_eq_true (by kernel_rfl)) k0 hg hlt0) (trodAll_cons_mk (arg_kept (by kernel_rfl) (of_decide_eq_true (by kernel_rfl)) k1 hg hlt1) (trodAll_mk0)), rfl, hg.below.frame _, fun h => by cases h⟩

theorem queryBlanks_said : Rows.QueryBlanksSaid :=
  OpenClaim.holds_of_cond 3 Tryd.f3 rfl rfl rfl rfl rfl rfl rfl ⟨rfl, rfl, rfl, rfl, rfl⟩ rfl rfl rfl rfl rfl (by kernel_rfl) Tryd.func3 (by kernel_rfl)
    (of_decide_eq_true (by kernel_rfl)) (by unfold Func.isWrapper; first | (rw [if_pos (by decide +kernel)]; kernel_rfl) | (rw [if_neg (by decide +kernel)]; exact ⟨rfl, rfl⟩))
    (fun os started H enc _ F => by rw [OpenClaim.pre_eq_preRow]; exact queryBlanks_lifted os started H enc F)

theorem queryBlanks_plain (f : FuncId) (fn : Func) (hf : Tryd.pinned.checked.prog.funcNamed "plover/ploverlaw17.QueryBlanks" = some f) (hfn : Tryd.pinned.checked.prog.funcs[f]? = some fn) :
    true = Tryd.pinned.checked.prog.looks [] ∧ ∀ (j : Nat) t, fn.params[j]? = some t → Tryd.pinned.checked.prog.wantsStandIn t = false := by
  obtain rfl : f = 3 := Option.some.inj ((show Tryd.prog.funcNamed "plover/ploverlaw17.QueryBlanks" = some 3 by kernel_rfl).symm.trans hf) |>.symm
  obtain rfl : fn = Tryd.f3 := (Option.some.inj (Tryd.func3.symm.trans hfn)).symm
  refine ⟨by kernel_rfl, fun j t ht => ?_⟩
  rw [Tryd.params3] at ht
  have ht' : t = 9 ∨ t = 5 := by simpa using Array.mem_of_getElem? ht
  rcases ht' with rfl | rfl
  · exact (show Tryd.prog.wantsStandIn 9 = false by kernel_rfl)
  · exact (show Tryd.prog.wantsStandIn 5 = false by kernel_rfl)

theorem queryBlanks_holds : Rows.QueryBlanksCardSaid :=
  Claim7.holds_tied_plain_at .later [] _ _ _ _ queryBlanks_said (fun _ h => by cases h) (by kernel_rfl) (fun _ h => by cases h) queryBlanks_row_tie rfl ⟨rfl, rfl⟩ (by kernel_rfl) rfl queryBlanks_plain (by kernel_rfl)
end Go.Proofs.YtbepgbkbpkaodaaDoor
