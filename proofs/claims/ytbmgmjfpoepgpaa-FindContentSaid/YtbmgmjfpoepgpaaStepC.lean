/- Contracts of package step: Load, Store. -/
import Derived.Test.YtbmgmjfpoepgpaaStepB
namespace Go.Proofs.Ytbmgmjfpoepgpaa
open Go.RowKit

theorem RunAt.keep {K : Nat → Prop} {w w' : World} {r m : Nat} {g : Value} {σ : RunS} (h : RunAt w r m g σ) (k : Keeps K w w') (hr : K r)
    (hg : ∀ b, g.ownBlock = some b → K b) : RunAt w' r m g σ :=
  ⟨h.obj.keep k hr, own_of_keep h.log k hg, h.le, h.room, h.range⟩

theorem turn2 {σ : RunS} (h : σ.turnK = 2) : σ.may = true ∧ σ.turn = { σ with may := false } ∧ σ.inn = true ∧ σ.off = false ∧ ¬ σ.pos < σ.log.length := by
  unfold RunS.turnK at h
  unfold RunS.turn
  split at h
  · cases h
  · rename_i h1
    rw [if_neg h1]
    split at h
    · cases h
    · rename_i h2
      rw [if_neg h2]
      split at h
      · cases h
      · rename_i h3
        rw [if_neg h3]
        simp at h1 h3
        exact ⟨h3, rfl, h1.1, h1.2, h2⟩

theorem turn1 {σ : RunS} (h : σ.turnK = 1) : σ.turn = { σ with pos := σ.pos + 1 } ∧ σ.pos < σ.log.length := by
  unfold RunS.turnK at h
  unfold RunS.turn
  split at h
  · cases h
  · rename_i h1
    rw [if_neg h1]
    split at h
    · rename_i h2; exact ⟨by rw [if_pos h2], h2⟩
    · split at h <;> cases h

theorem turn_cases (σ : RunS) : σ.turnK = 2 ∨ σ.turnK = 1 ∨ σ.turnK = 0 := by
  unfold RunS.turnK
  split
  · simp
  · split
    · simp
    · split <;> simp

theorem keeps_one {K : Nat → Prop} {x : Nat} {w w' : World} (h : Keeps (· ≠ x) w w') (hx : ¬ K x) : Keeps K w w' :=
  h.mono fun _ hb e => hx (e ▸ hb)

theorem logAt {w : World} {r m : Nat} {g : Value} {σ : RunS} (h : RunAt w r m g σ) (hp : σ.pos < σ.log.length) :
    ∃ b cap, g = .slice (some ⟨b, 0, none⟩) σ.log.length cap ∧ w.cell? ⟨b, σ.pos, none⟩ = some (.int .u32 (σ.log.getD σ.pos 0)) := by
  rcases own_slice h.log with ⟨_, h2, _⟩ | ⟨b, cap, h1, _, _, h4⟩
  · omega
  · refine ⟨b, cap, h1, ?_⟩
    rw [h4 _ hp, List.getElem?_map, List.getElem?_eq_getElem hp, List.getD_eq_getElem?_getD, List.getElem?_eq_getElem hp]
    rfl

set_option maxHeartbeats 400000 in
theorem step_load {w : World} {K : Nat → Prop} {r m c : Nat} {s : St} (h : RM w K r m c s) (a : Int) :
    Calls Try.prog 43 #[.pointer (some ⟨r, 0, none⟩), .int .i64 a] w fun e w' =>
      e = .returned (.int .u32 (s.load a).1) ∧ RM w' K r m c (s.load a).2 ∧ Keeps K w w' := by
  obtain ⟨g, hrun, hgb⟩ := h.run
  have hgr : ∀ b, g.ownBlock = some b → b ≠ r := fun b hb => (hgb b hb).1
  have H := hid h
  clear h
  refine calls_hide fun R' hR' => ?_
  rcases turn_cases s.r with h2 | h1 | h0
  · obtain ⟨hmay, hturn, _, _, _⟩ := turn2 h2
    have HT := hid hturn
    have HMay := hid hmay
    have H2 := hid h2
    have HR := hid hrun
    clear hturn hmay hrun
    go_enter Try.func43, Try.ntmps43
    go_wp2_with fail
    refine (step_turn HR.out hgr).mono ?_
    rintro e w1 ⟨rfl, hrun1, hk1⟩
    rw [h2]
    have c0 := hrun1.facts.1
    have hm1 : MemAt w1 m c s.m := H.out.mem.keep hk1 (fun e => H.out.rm e.symm) (fun e => H.out.rc e.symm)
    have HR1 := hid hrun1
    have HK1 := hid hk1
    clear hrun1 hk1 h2
    go_wp2_with fail
    refine (mem_load hm1 a).mono ?_
    rintro e w2 ⟨rfl, hm2, hk2⟩
    have hrun2 : RunAt w2 r m g s.r.turn := HR1.out.keep hk2 H.out.rm (fun b hb => (hgb b hb).2.1)
    have hlen : s.r.turn.log.length < 1099511627776 := by
      have := H.out.run; obtain ⟨g2, hg2, _⟩ := this; have := hg2.room; rw [HMay.out] at this; rw [HT.out]; simp at this ⊢; omega
    have hmf : s.r.turn.may = false := by rw [HT.out]
    have hsz1 := HK1.out.size
    have hsz2 := hk2.size
    have hval : s.load a = (if s.m.inb a then s.m.at a else 0, ⟨s.r.turn.made (if s.m.inb a then s.m.at a else 0) (if s.m.inb a then 0 else 2), s.m.load a⟩) := by
      unfold St.load; rw [if_pos H2.out]
    have HV := hid hval
    have HMF := hid hmf
    have HM2 := hid hm2
    have HR2 := hid hrun2
    have HK2 := hid hk2
    have HLen := hid hlen
    clear hval hmf hm2 hrun2 hk2 hlen hm1
    cases hin : s.m.inb a
    · have Hin := hid hin
      clear hin
      go_wp2_with fail
      refine (step_made_err HR2.out hgr 0).mono ?_
      rintro e w3 ⟨rfl, hrun3, hk3⟩
      have HR3 := hid hrun3
      have HK3 := hid hk3
      clear hrun3 hk3
      go_wp2_with fail
      refine hR'.out _ _ ⟨by rw [HV.out, Hin.out]; rfl, ?_, ?_⟩
      · rw [HV.out, Hin.out]
        exact ⟨⟨g, HR3.out, hgb⟩, HM2.out.keep HK3.out (fun e => H.out.rm e.symm) (fun e => H.out.rc e.symm), H.out.rm, H.out.rc, H.out.kr, H.out.km, H.out.kc,
          fun b hb => by have := H.out.lt b hb; have := HK3.out.size; omega⟩
      · exact (keeps_one HK1.out H.out.kr).trans ((keeps_one HK2.out H.out.km).trans (keeps_one HK3.out H.out.kr))
    · have hu : U32 (s.m.at a) := by
        have : 0 ≤ a ∧ a < s.m.cells.length := by simpa [MemS.inb] using hin
        exact MemS.at_range H.out.mem this.1 this.2
      have Hin := hid hin
      have Hu := hid hu
      clear hin hu
      go_wp2_with fail
      refine (step_made_ok HR2.out hgr _ Hu.out HLen.out HMF.out).mono ?_
      rintro e w3 ⟨rfl, hrun3, hk3⟩
      have HR3 := hid hrun3
      have HK3 := hid hk3
      clear hrun3 hk3
      go_wp2_with fail
      refine hR'.out _ _ ⟨by rw [HV.out, Hin.out]; rfl, ?_, ?_⟩
      · rw [HV.out, Hin.out]
        obtain ⟨g', hg1, hg2, hg3⟩ := HR3.out
        have hmb := HM2.out
        refine ⟨⟨g', hg1, fun b hb => ?_⟩, hmb.keep HK3.out ⟨hmb.obj.lt, fun e => H.out.rm e.symm, ?_⟩ ⟨hmb.cells.lt, fun e => H.out.rc e.symm, ?_⟩, H.out.rm, H.out.rc, H.out.kr, H.out.km, H.out.kc,
          fun b hb => by have := H.out.lt b hb; have := HK3.out.size; omega⟩
        · rcases hg3 with e | ⟨b', e, hb'⟩
          · exact hgb b (e ▸ hb)
          · rw [e] at hb; injection hb with hb; subst hb
            have h1 := hmb.obj.lt; have h2 := hmb.cells.lt
            exact ⟨hg2 _ e, by omega, by omega, fun hK => by have := H.out.lt _ hK; omega⟩
        · exact fun e => (hgb m e.symm).2.1 rfl
        · exact fun e => (hgb c e.symm).2.2.1 rfl
      · refine (keeps_one HK1.out H.out.kr).trans ((keeps_one HK2.out H.out.km).trans (HK3.out.mono fun b hb => ?_))
        have := H.out.lt b hb
        exact ⟨by omega, fun e => H.out.kr (e ▸ hb), fun e => (hgb b e.symm).2.2.2 hb⟩
  · obtain ⟨hturn, hp⟩ := turn1 h1
    have HT := hid hturn
    have HR := hid hrun
    have H1 := hid h1
    have Hp := hid hp
    clear hturn hrun hp
    go_enter Try.func43, Try.ntmps43
    go_wp2_with fail
    refine (step_turn HR.out hgr).mono ?_
    rintro e w1 ⟨rfl, hrun1, hk1⟩
    rw [h1]
    have c1 := hrun1.facts.2.1
    have c2 := hrun1.facts.2.2.1
    rw [HT.out] at c2
    obtain ⟨lb, cap, hgv, hlog⟩ := logAt HR.out Hp.out
    have hlog1 : w1.cell? ⟨lb, s.r.pos, none⟩ = some (.int .u32 (s.r.log.getD s.r.pos 0)) := by
      rw [← hlog]; exact World.cell?_of_block (hk1.block lb (hgr lb (by rw [hgv]; rfl)))
    rw [hgv] at c1
    have HG := hid hgv
    have hp := Hp.out
    have hl1 : s.r.log.length ≤ 1099511627776 := by have := HR.out.room; split at this <;> omega
    have HR1 := hid hrun1
    have HK1 := hid hk1
    clear hrun1 hk1 h1 hgv hlog
    simp only at c2
    generalize hx : s.r.log.getD s.r.pos 0 = x at hlog1
    have HX := hid hx
    clear hx
    go_wp2_with fail
    go_quiet (fail)
    go_wp2_with fail
    have hval : s.load a = (x, ⟨s.r.turn, s.m⟩) := by
      unfold St.load; rw [if_neg (by rw [H1.out]; decide), if_pos H1.out, HX.out]
    refine hR'.out _ _ ⟨by rw [hval]; rfl, ?_, ((keeps_one HK1.out H.out.kr).drewN _)⟩
    rw [hval]
    have hk : Keeps (· ≠ r) w (w1.drewN nq) := HK1.out.drewN _
    refine ⟨⟨g, HR1.out.keep (K := fun _ => True) ((Keeps.refl _ w1).drewN nq) trivial (fun _ _ => trivial), hgb⟩, H.out.mem.keep hk (fun e => H.out.rm e.symm) (fun e => H.out.rc e.symm), H.out.rm, H.out.rc, H.out.kr, H.out.km, H.out.kc,
      fun b hb => by have := H.out.lt b hb; have := hk.size; omega⟩
  · have HR := hid hrun
    have H0 := hid h0
    clear hrun
    go_enter Try.func43, Try.ntmps43
    go_wp2_with fail
    refine (step_turn HR.out hgr).mono ?_
    rintro e w1 ⟨rfl, hrun1, hk1⟩
    rw [h0]
    have HR1 := hid hrun1
    have HK1 := hid hk1
    clear hrun1 hk1 h0
    go_wp2_with fail
    have hval : s.load a = (0, ⟨s.r.turn, s.m⟩) := by
      unfold St.load; rw [if_neg (by rw [H0.out]; decide), if_neg (by rw [H0.out]; decide)]
    refine hR'.out _ _ ⟨by rw [hval]; rfl, ?_, keeps_one HK1.out H.out.kr⟩
    rw [hval]
    exact ⟨⟨g, HR1.out, hgb⟩, H.out.mem.keep HK1.out (fun e => H.out.rm e.symm) (fun e => H.out.rc e.symm), H.out.rm, H.out.rc, H.out.kr, H.out.km, H.out.kc,
      fun b hb => by have := H.out.lt b hb; have := HK1.out.size; omega⟩
end Go.Proofs.Ytbmgmjfpoepgpaa
