/- Contracts of package step: Store, Off, Over, Count, Err. -/
import Derived.Test.YtbmgmjfpoepgpaaStepC
namespace Go.Proofs.Ytbmgmjfpoepgpaa
open Go.RowKit

theorem RM.made_ok {w w' : World} {K : Nat → Prop} {r m c : Nat} {g : Value} {s : St} {σ : RunS} {μ : MemS} (H : RM w K r m c s)
    (hgb : ∀ k, g.ownBlock = some k → k ≠ r ∧ k ≠ m ∧ k ≠ c ∧ ¬ K k)
    {w2 : World} (hs : w.heap.size ≤ w2.heap.size) (hm : MemAt w2 m c μ) (hr : ∃ g', RunAt w' r m g' σ ∧ (∀ b, g'.ownBlock = some b → b ≠ r) ∧ (g'.ownBlock = g.ownBlock ∨ ∃ b, g'.ownBlock = some b ∧ w2.heap.size ≤ b))
    (hk : Keeps (fun b => b < w2.heap.size ∧ b ≠ r ∧ some b ≠ g.ownBlock) w2 w') : RM w' K r m c ⟨σ, μ⟩ ∧ Keeps K w2 w' := by
  obtain ⟨g', hg1, hg2, hg3⟩ := hr
  refine ⟨⟨⟨g', hg1, fun b hb => ?_⟩, hm.keep hk ⟨hm.obj.lt, fun e => H.rm e.symm, ?_⟩ ⟨hm.cells.lt, fun e => H.rc e.symm, ?_⟩, H.rm, H.rc, H.kr, H.km, H.kc,
    fun b hb => by have := H.lt b hb; have := hk.size; omega⟩, hk.mono fun b hb => ?_⟩
  · rcases hg3 with e | ⟨b', e, hb'⟩
    · exact hgb b (e ▸ hb)
    · rw [e] at hb; injection hb with hb; subst hb
      have h1 := hm.obj.lt; have h2 := hm.cells.lt
      exact ⟨hg2 _ e, by omega, by omega, fun hK => by have := H.lt _ hK; omega⟩
  · exact fun e => (hgb m e.symm).2.1 rfl
  · exact fun e => (hgb c e.symm).2.2.1 rfl
  · have := H.lt b hb
    exact ⟨by omega, fun e => H.kr (e ▸ hb), fun e => (hgb b e.symm).2.2.2 hb⟩

set_option maxHeartbeats 400000 in
theorem run_off {w : World} {r m : Nat} {g : Value} {σ : RunS} (h : RunAt w r m g σ) :
    Calls Try.prog 45 #[.pointer (some ⟨r, 0, none⟩)] w fun e w' => e = .returned (.bool (σ.off || !σ.inn)) ∧ w = w' := by
  have ⟨c0, c1, c2, c3, c4, c5, c6, c7, f⟩ := h.facts
  clear h f
  refine calls_hide fun R' hR' => ?_
  obtain ⟨log, pos, inn, may, off, over, err⟩ := σ
  simp only at c2 c3 c4 c5 c6 c7
  cases off <;> cases inn <;>
  · go_enter Try.func45, Try.ntmps45
    go_wp2
    exact hR'.out _ _ ⟨rfl, rfl⟩

set_option maxHeartbeats 400000 in
theorem run_over {w : World} {r m : Nat} {g : Value} {σ : RunS} (h : RunAt w r m g σ) :
    Calls Try.prog 33 #[.pointer (some ⟨r, 0, none⟩)] w fun e w' => e = .returned (.bool σ.over) ∧ w = w' := by
  have ⟨c0, c1, c2, c3, c4, c5, c6, c7, f⟩ := h.facts
  clear h f
  refine calls_hide fun R' hR' => ?_
  go_enter Try.func33, Try.ntmps33
  go_wp2
  exact hR'.out _ _ ⟨rfl, rfl⟩

set_option maxHeartbeats 400000 in
theorem run_err {w : World} {r m : Nat} {g : Value} {σ : RunS} (h : RunAt w r m g σ) :
    Calls Try.prog 48 #[.pointer (some ⟨r, 0, none⟩)] w fun e w' => e = .returned (.int .i64 σ.err) ∧ w = w' := by
  have ⟨c0, c1, c2, c3, c4, c5, c6, c7, f⟩ := h.facts
  clear h f
  refine calls_hide fun R' hR' => ?_
  go_enter Try.func48, Try.ntmps48
  go_wp2
  exact hR'.out _ _ ⟨rfl, rfl⟩

theorem step_off {w : World} {K : Nat → Prop} {r m c : Nat} {s : St} (h : RM w K r m c s) :
    Calls Try.prog 45 #[.pointer (some ⟨r, 0, none⟩)] w fun e w' => e = .returned (.bool s.isOff) ∧ w = w' := by
  obtain ⟨g, hrun, _⟩ := h.run
  exact run_off hrun
end Go.Proofs.Ytbmgmjfpoepgpaa
