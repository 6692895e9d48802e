/- The statement on StepApart: the call returns true and leaves what it was handed as it was; from the walk's contract. -/
import Derived.Test.YtjnaibmnpajfdaaOpen03
import Derived.Test.YtjnaibmnpajfdaaStepApart
namespace Go.Proofs.Ytjnaibmnpajfdaa
open Go.RowKit Go.ChangeShapes Go.WideShapes Go.ChangeAt Go.Deep
set_option linter.unusedVariables false

set_option maxRecDepth 100000 in
theorem stepApart_lifted (os : Os) (started : os.Started) (H : Type) (enc : TypeId × Value → H) :
    ReturnsInHanded {} Try.checked os 7 .any (Rows.stepApartSpec.pre6 enc Try.prog Try.f7 Rows.stepApartRow.domain false) (Rows.stepApartSpec.post enc Try.prog Try.f7 false true false false) := by
  refine returnsInHanded_of_change (C := Try.checked) Try.own started (by kernel_rfl) Try.func7
    (ChangeSpec.witness6 (enc := enc) (C := Try.checked) false ⟨#[], #[.int .u8 0, .slice none 0 0, .slice none 0 0, .slice none 0 0], []⟩ 8 (by kernel_rfl) (by kernel_rfl) (by kernel_rfl) (by kernel_rfl)) ?_
  intro W base args ds gs before hval0 hW hcnd _
  have hval : ∀ (j : Nat) t v, Try.f7.params[j]? = some t → args[j]? = some v → Value.okWide Try.prog W .any base t v := hval0
  have hW' := hW
  obtain ⟨p, q, hA0, hV, rfl, hfz, hnd⟩ := hW
  have hA : DataW.TrodAll enc Try.prog W 0 (fun _ => true) true Try.f7.params.toList args.toList ds p := hA0
  rw [Try.params7] at hA hval
  obtain ⟨v0, vs0, d0, ds0, p0, q0, hargs, rfl, rfl, h0, r0⟩ := trodAll_cons hA
  obtain ⟨v1, vs1, d1, ds1, p1, q1, rfl, rfl, rfl, h1, r1⟩ := trodAll_cons r0
  obtain ⟨v2, vs2, d2, ds2, p2, q2, rfl, rfl, rfl, h2, r2⟩ := trodAll_cons r1
  obtain ⟨v3, vs3, d3, ds3, p3, q3, rfl, rfl, rfl, h3, r3⟩ := trodAll_cons r2
  obtain ⟨rfl, rfl, rfl⟩ := trodAll_nil r3
  obtain rfl : args = #[v0, v1, v2, v3] := by cases args; simp_all
  obtain ⟨rfl, rfl⟩ := trodVars_none hV
  simp only [List.append_nil] at hW'
  have k0 := h0
  have k1 := h1
  have k2 := h2
  have k3 := h3
  have hlt0 : ∀ x ∈ p0, x.block < W.heap.size := fun x hx => by simpa using hW'.lt x (by simp [hx])
  have hlt1 : ∀ x ∈ p1, x.block < W.heap.size := fun x hx => by simpa using hW'.lt x (by simp [hx])
  have hlt2 : ∀ x ∈ p2, x.block < W.heap.size := fun x hx => by simpa using hW'.lt x (by simp [hx])
  have hlt3 : ∀ x ∈ p3, x.block < W.heap.size := fun x hx => by simpa using hW'.lt x (by simp [hx])
  obtain ⟨a0, rfl, rfl, rfl, w0⟩ := open_int Try.underlying5 (hval 0 5 v0 rfl rfl) h0
  have b0 := bounds_u8 w0
  obtain ⟨A1, c1, l1, e1, w1, s1⟩ := open_insS (hval 1 22 v1 rfl rfl) h1
  obtain ⟨A2, c2, l2, e2, w2, s2⟩ := open_insS (hval 2 22 v2 rfl rfl) h2
  obtain ⟨A3, c3, l3, e3, w3, s3⟩ := open_u8S (hval 3 44 v3 rfl rfl) h3
  clear hA0 hval0
  have hwalk : Calls Try.prog 7 #[.int .u8 a0, v1, v2, v3] W fun e W' => e = .returned (.bool true) ∧ Keeps (· < W.heap.size) W W' := by
    subst e1 e2
    obtain ⟨n0, rfl⟩ := Int.eq_ofNat_of_zero_le b0.1
    exact stepApart_call n0 (by omega) A1 A2 c1 c2 l1 l2 w1 w2 v3 l3 W s1 s2 s3 (fun x hx => bounds_u8 (w3 x hx))
  refine hwalk.mono fun e W' ⟨he, hg⟩ => ?_
  subst he
  exact ⟨_, rfl, _, _, _, _, _, [], hW', trodAll_cons_mk (shut_bool Try.underlying4 _) trodAll_mk0, trodAll_cons_mk (arg_kept (by kernel_rfl) (of_decide_eq_true (by kernel_rfl)) k0 hg hlt0) (trodAll_cons_mk (arg_kept (by kernel_rfl) (of_decide_eq_true (by kernel_rfl)) k1 hg hlt1) (trodAll_cons_mk (arg_kept (by kernel_rfl) (of_decide_eq_true (by kernel_rfl)) k2 hg hlt2) (trodAll_cons_mk (arg_kept (by kernel_rfl) (of_decide_eq_true (by kernel_rfl)) k3 hg hlt3) (trodAll_mk0)))), rfl, hg.below.frame _, fun h => by cases h⟩

theorem stepApart_over : Rows.stepApartRow.holds Try.pinned (OpenSpec.ofChange Rows.stepApartSpec) :=
  OpenClaim.holds_of_wide 7 Try.f7 rfl rfl rfl rfl rfl rfl rfl ⟨rfl, rfl, rfl, rfl, rfl⟩ rfl rfl rfl rfl rfl (by kernel_rfl) Try.func7 (by kernel_rfl)
    (of_decide_eq_true (by kernel_rfl)) (by unfold Func.isWrapper; first | (rw [if_pos (by decide +kernel)]; kernel_rfl) | (rw [if_neg (by decide +kernel)]; exact ⟨rfl, rfl⟩))
    (fun os started H enc _ => stepApart_lifted os started H enc)

theorem stepApart_holds : Rows.StepApartSaid := stepApart_over
end Go.Proofs.Ytjnaibmnpajfdaa
