/- Contracts of package step: Store, Off, Over, Count, Err. -/
import Derived.Test.YtbmgmjfpoepgpaaDoorStepC
namespace Go.Proofs.YtbmgmjfpoepgpaaDoor
open Go.RowKit

theorem RM.made_ok {w w' : World} {K : Nat → Prop} {r m c : Nat} {g : Value} {s : St} {σ : RunS} {μ : MemS} (H : RM w K r m c s)
    (hgb : ∀ k, g.ownBlock = some k → k ≠ r ∧ k ≠ m ∧ k ≠ c ∧ ¬ K k)
    {w2 : World} (hs : w.heap.size ≤ w2.heap.size) (hm : MemAt w2 m c μ) (hr : ∃ g', RunAt w' r m g' σ ∧ (∀ b, g'.ownBlock = some b → b ≠ r) ∧ (g'.ownBlock = g.ownBlock ∨ ∃ b, g'.ownBlock = some b ∧ w2.heap.size ≤ b))
    (hk : Keeps (fun b => b < w2.heap.size ∧ b ≠ r ∧ some b ≠ g.ownBlock) w2 w') : RM w' K r m c ⟨σ, μ⟩ ∧ Keeps K w2 w' := by
  obtain ⟨g', hg1, hg2, hg3⟩ := hr
  refine ⟨⟨⟨g', hg1, fun b hb => ?_⟩, hm.keep hk ⟨hm.obj.lt, fun e => H.rm e.symm, ?_⟩ ⟨hm.cells.lt, fun e => H.rc e.symm, ?_⟩, H.rm, H.rc, H.kr, H.km, H.kc,
    fun b hb => by have := H.lt b hb; have := hk.size; omega⟩, hk.mono fun b hb => ?_⟩
  · rcases hg3 with e | ⟨b', e, hb'⟩
    · exact hgb b (e ▸ hb)
    · rw [e] at hb; injection hb with hb; subst hb
      have h1 := hm.obj.lt; have h2 := hm.cells.lt
      exact ⟨hg2 _ e, by omega, by omega, fun hK => by have := H.lt _ hK; omega⟩
  · exact fun e => (hgb m e.symm).2.1 rfl
  · exact fun e => (hgb c e.symm).2.2.1 rfl
  · have := H.lt b hb
    exact ⟨by omega, fun e => H.kr (e ▸ hb), fun e => (hgb b e.symm).2.2.2 hb⟩

set_option maxHeartbeats 400000 in
theorem step_store {w : World} {K : Nat → Prop} {r m c : Nat} {s : St} (h : RM w K r m c s) (a v : Int) (hv : U32 v) :
    Calls Tryd.prog 62 #[.pointer (some ⟨r, 0, none⟩), .int .i64 a, .int .u32 v] w fun e w' =>
      e = .returned (.tuple #[]) ∧ RM w' K r m c (s.store a v) ∧ Keeps K w w' := by
  obtain ⟨g, hrun, hgb⟩ := h.run
  have hgr : ∀ b, g.ownBlock = some b → b ≠ r := fun b hb => (hgb b hb).1
  have H := hid h
  clear h
  refine calls_hide fun R' hR' => ?_
  by_cases h2 : s.r.turnK = 2
  · obtain ⟨hmay, hturn, _, _, _⟩ := turn2 h2
    have HT := hid hturn
    have HMay := hid hmay
    have H2 := hid h2
    have HR := hid hrun
    clear hturn hmay hrun
    go_enter Tryd.func62, Tryd.ntmps62
    go_wp2_with fail
    refine (step_turn HR.out hgr).mono ?_
    rintro e w1 ⟨rfl, hrun1, hk1⟩
    rw [h2]
    have c0 := hrun1.facts.1
    have hm1 : MemAt w1 m c s.m := H.out.mem.keep hk1 (fun e => H.out.rm e.symm) (fun e => H.out.rc e.symm)
    have HR1 := hid hrun1
    have HK1 := hid hk1
    clear hrun1 hk1 h2
    go_wp2_with fail
    refine (mem_store hm1 a v hv).mono ?_
    rintro e w2 ⟨rfl, hm2, hk2⟩
    have hrun2 : RunAt w2 r m g s.r.turn := HR1.out.keep hk2 ⟨H.out.rm, H.out.rc⟩ (fun b hb => ⟨(hgb b hb).2.1, (hgb b hb).2.2.1⟩)
    have hlen : s.r.turn.log.length < 1099511627776 := by
      have := HR.out.room; rw [HMay.out] at this; rw [HT.out]; simp at this ⊢; omega
    have hmf : s.r.turn.may = false := by rw [HT.out]
    have hk12 : Keeps K w w2 := (keeps_one HK1.out H.out.kr).trans (hk2.mono fun b hb => ⟨fun e => H.out.km (e ▸ hb), fun e => H.out.kc (e ▸ hb)⟩)
    have hval : s.store a v = ⟨s.r.turn.made 0 (if s.m.inb a then 0 else 2), s.m.store a v⟩ := by
      unfold St.store; rw [if_pos H2.out]
    have HV := hid hval
    have HMF := hid hmf
    have HM2 := hid hm2
    have HR2 := hid hrun2
    have HK2 := hid hk12
    have HLen := hid hlen
    clear hval hmf hm2 hrun2 hk2 hlen hm1 hk12
    cases hin : s.m.inb a
    · have Hin := hid hin
      clear hin
      go_wp2_with fail
      refine (step_made_err HR2.out hgr 0).mono ?_
      rintro e w3 ⟨rfl, hrun3, hk3⟩
      have HR3 := hid hrun3
      have HK3 := hid hk3
      clear hrun3 hk3
      go_wp2_with fail
      go_end0
      refine hR'.out _ _ ⟨rfl, ?_, HK2.out.trans (keeps_one HK3.out H.out.kr)⟩
      rw [HV.out, Hin.out]
      exact ⟨⟨g, HR3.out, hgb⟩, HM2.out.keep HK3.out (fun e => H.out.rm e.symm) (fun e => H.out.rc e.symm), H.out.rm, H.out.rc, H.out.kr, H.out.km, H.out.kc,
          fun b hb => by have := H.out.lt b hb; have := HK2.out.size; have := HK3.out.size; omega⟩
    · have Hin := hid hin
      clear hin
      go_wp2_with fail
      refine (step_made_ok HR2.out hgr 0 (by unfold U32; omega) HLen.out HMF.out).mono ?_
      rintro e w3 ⟨rfl, hrun3, hk3⟩
      have HR3 := hid hrun3
      have HK3 := hid hk3
      clear hrun3 hk3
      go_wp2_with fail
      go_end0
      have hfin := RM.made_ok H.out hgb HK2.out.size HM2.out HR3.out HK3.out
      refine hR'.out _ _ ⟨rfl, ?_, HK2.out.trans hfin.2⟩
      rw [HV.out, Hin.out]
      exact hfin.1
  · have HR := hid hrun
    have H0 := hid h2
    have hbf : (s.r.turnK == 2) = false := by simpa using h2
    clear hrun h2
    go_enter Tryd.func62, Tryd.ntmps62
    go_wp2_with fail
    refine (step_turn HR.out hgr).mono ?_
    rintro e w1 ⟨rfl, hrun1, hk1⟩
    rw [hbf]
    have HR1 := hid hrun1
    have HK1 := hid hk1
    clear hrun1 hk1
    go_wp2_with fail
    go_end0
    have hval : s.store a v = ⟨s.r.turn, s.m⟩ := by
      unfold St.store; rw [if_neg H0.out]
    refine hR'.out _ _ ⟨rfl, ?_, keeps_one HK1.out H.out.kr⟩
    rw [hval]
    exact ⟨⟨g, HR1.out, hgb⟩, H.out.mem.keep HK1.out (fun e => H.out.rm e.symm) (fun e => H.out.rc e.symm), H.out.rm, H.out.rc, H.out.kr, H.out.km, H.out.kc,
      fun b hb => by have := H.out.lt b hb; have := HK1.out.size; omega⟩
set_option maxHeartbeats 400000 in
theorem run_off {w : World} {r m : Nat} {g : Value} {σ : RunS} (h : RunAt w r m g σ) :
    Calls Tryd.prog 46 #[.pointer (some ⟨r, 0, none⟩)] w fun e w' => e = .returned (.bool (σ.off || !σ.inn)) ∧ w = w' := by
  have ⟨c0, c1, c2, c3, c4, c5, c6, c7, f⟩ := h.facts
  clear h f
  refine calls_hide fun R' hR' => ?_
  obtain ⟨log, pos, inn, may, off, over, err⟩ := σ
  simp only at c2 c3 c4 c5 c6 c7
  cases off <;> cases inn <;>
  · go_enter Tryd.func46, Tryd.ntmps46
    go_wp2
    exact hR'.out _ _ ⟨rfl, rfl⟩

set_option maxHeartbeats 400000 in
theorem run_over {w : World} {r m : Nat} {g : Value} {σ : RunS} (h : RunAt w r m g σ) :
    Calls Tryd.prog 22 #[.pointer (some ⟨r, 0, none⟩)] w fun e w' => e = .returned (.bool σ.over) ∧ w = w' := by
  have ⟨c0, c1, c2, c3, c4, c5, c6, c7, f⟩ := h.facts
  clear h f
  refine calls_hide fun R' hR' => ?_
  go_enter Tryd.func22, Tryd.ntmps22
  go_wp2
  exact hR'.out _ _ ⟨rfl, rfl⟩


theorem step_off {w : World} {K : Nat → Prop} {r m c : Nat} {s : St} (h : RM w K r m c s) :
    Calls Tryd.prog 46 #[.pointer (some ⟨r, 0, none⟩)] w fun e w' => e = .returned (.bool s.isOff) ∧ w = w' := by
  obtain ⟨g, hrun, _⟩ := h.run
  exact run_off hrun
end Go.Proofs.YtbmgmjfpoepgpaaDoor
