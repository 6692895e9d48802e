/- The statement on DictUndisturbed: the call returns true and leaves what it was handed as it was; from the walk's contract. -/
import Derived.Test.YtjnaibmnpajfdaaOpenC
import Derived.Test.YtjnaibmnpajfdaaDU
namespace Go.Proofs.Ytjnaibmnpajfdaa
open Go.RowKit Go.ChangeShapes Go.WideShapes Go.ChangeAt Go.Deep
open Go.ChangeMaps (open_string)
set_option linter.unusedVariables false

set_option maxRecDepth 100000 in
theorem dictUndisturbed_lifted (os : Os) (started : os.Started) (H : Type) (enc : TypeId × Value → H) :
    ReturnsInHanded {} Try.checked os 10 .any (Rows.dictUndisturbedSpec.pre6 enc Try.prog Try.f10 Rows.dictUndisturbedRow.domain false) (Rows.dictUndisturbedSpec.post enc Try.prog Try.f10 false true false false) := by
  refine returnsInHanded_of_change_sized (C := Try.checked) Try.own started (by kernel_rfl) Try.func10
    (ChangeSpec.witness6 (enc := enc) (C := Try.checked) false ⟨#[], #[.slice none 0 0, .slice none 0 0, .string ⟨#[]⟩, .slice none 0 0], []⟩ 8 (by kernel_rfl) (by kernel_rfl) (by kernel_rfl) (by kernel_rfl)) ?_
  intro W base args ds gs before hval0 hW hcnd hsz0 _
  have hsz : (DataW.weightsEach Try.prog (Try.f10.params.toList ++ Rows.dictUndisturbedSpec.plain.varTypes Try.prog) (ds ++ gs)).all (· ≤ reachBytes) = true := hsz0
  have hval : ∀ (j : Nat) t v, Try.f10.params[j]? = some t → args[j]? = some v → Value.okWide Try.prog W .any base t v := hval0
  have hW' := hW
  obtain ⟨p, q, hA0, hV, rfl, hfz, hnd⟩ := hW
  have hA : DataW.TrodAll enc Try.prog W 0 (fun _ => true) true Try.f10.params.toList args.toList ds p := hA0
  rw [Try.params10] at hA hval hsz
  obtain ⟨v0, vs0, d0, ds0, p0, q0, hargs, rfl, rfl, h0, r0⟩ := trodAll_cons hA
  obtain ⟨v1, vs1, d1, ds1, p1, q1, rfl, rfl, rfl, h1, r1⟩ := trodAll_cons r0
  obtain ⟨v2, vs2, d2, ds2, p2, q2, rfl, rfl, rfl, h2, r2⟩ := trodAll_cons r1
  obtain ⟨v3, vs3, d3, ds3, p3, q3, rfl, rfl, rfl, h3, r3⟩ := trodAll_cons r2
  obtain ⟨rfl, rfl, rfl⟩ := trodAll_nil r3
  obtain rfl : args = #[v0, v1, v2, v3] := by cases args; simp_all
  obtain ⟨rfl, rfl⟩ := trodVars_none hV
  simp only [List.append_nil] at hW'
  have k0 := h0
  have k1 := h1
  have k2 := h2
  have k3 := h3
  have hlt0 : ∀ x ∈ p0, x.block < W.heap.size := fun x hx => by simpa using hW'.lt x (by simp [hx])
  have hlt1 : ∀ x ∈ p1, x.block < W.heap.size := fun x hx => by simpa using hW'.lt x (by simp [hx])
  have hlt2 : ∀ x ∈ p2, x.block < W.heap.size := fun x hx => by simpa using hW'.lt x (by simp [hx])
  have hlt3 : ∀ x ∈ p3, x.block < W.heap.size := fun x hx => by simpa using hW'.lt x (by simp [hx])
  obtain ⟨A0, c0, l0, e0, w0, s0⟩ := open_strsS (hval 0 73 v0 rfl rfl) h0
  obtain ⟨A1, c1, l1, e1, w1, s1⟩ := open_strsS (hval 1 73 v1 rfl rfl) h1
  obtain ⟨a2, rfl, rfl, rfl, w2⟩ := open_string Try.underlying9 (hval 2 9 v2 rfl rfl) h2
  obtain ⟨A3, c3, l3, e3, w3, s3⟩ := open_u8S (hval 3 44 v3 rfl rfl) h3
  clear hA0 hval0
  have hwalk : Calls Try.prog 10 #[v0, v1, .string a2, v3] W fun e W' => e = .returned (.bool true) ∧ Keeps (· < W.heap.size) W W' := by
    subst e0 e1 e3
    have hz0 : ∀ x ∈ l0, x.size ≤ 140737488351232 := fun x hx => sized_strX hsz (j := 0) rfl rfl Try.underlying73 (w0 x hx)
    have hz1 : ∀ x ∈ l1, x.size ≤ 140737488351232 := fun x hx => sized_strX hsz (j := 1) rfl rfl Try.underlying73 (w1 x hx)
    exact du_walk A0 A1 A3 c0 c1 c3 l0 l1 a2 l3 W hz0 hz1 (fun x hx => bounds_u8 (w3 x hx)) s0 s1 s3
  refine hwalk.mono fun e W' ⟨he, hg⟩ => ?_
  subst he
  exact ⟨_, rfl, _, _, _, _, _, [], hW', trodAll_cons_mk (shut_bool Try.underlying4 _) trodAll_mk0, trodAll_cons_mk (arg_kept (by kernel_rfl) (of_decide_eq_true (by kernel_rfl)) k0 hg hlt0) (trodAll_cons_mk (arg_kept (by kernel_rfl) (of_decide_eq_true (by kernel_rfl)) k1 hg hlt1) (trodAll_cons_mk (arg_kept (by kernel_rfl) (of_decide_eq_true (by kernel_rfl)) k2 hg hlt2) (trodAll_cons_mk (arg_kept (by kernel_rfl) (of_decide_eq_true (by kernel_rfl)) k3 hg hlt3) (trodAll_mk0)))), rfl, hg.below.frame _, fun h => by cases h⟩

theorem dictUndisturbed_over : Rows.dictUndisturbedRow.holds Try.pinned (OpenSpec.ofChange Rows.dictUndisturbedSpec) :=
  OpenClaim.holds_of_wide 10 Try.f10 rfl rfl rfl rfl rfl rfl rfl ⟨rfl, rfl, rfl, rfl, rfl⟩ rfl rfl rfl rfl rfl (by kernel_rfl) Try.func10 (by kernel_rfl)
    (of_decide_eq_true (by kernel_rfl)) (by unfold Func.isWrapper; first | (rw [if_pos (by decide +kernel)]; kernel_rfl) | (rw [if_neg (by decide +kernel)]; exact ⟨rfl, rfl⟩))
    (fun os started H enc _ => dictUndisturbed_lifted os started H enc)

theorem dictUndisturbed_holds : Rows.DictUndisturbedSaid := dictUndisturbed_over
end Go.Proofs.Ytjnaibmnpajfdaa
