/- Contracts of package step: New, Step; of package mem: New, Cells, Loads, Stores. -/
import Derived.Test.YtbmgmjfpoepgpaaStepD
namespace Go.Proofs.Ytbmgmjfpoepgpaa
open Go.RowKit

theorem RM.obj8 {w : World} {K : Nat → Prop} {r m c : Nat} {s : St} (h : RM w K r m c s) : ∃ g,
    Blk w r [.pointer (some ⟨m, 0, none⟩), g, .int .i64 s.r.pos, .bool s.r.inn, .bool s.r.may, .bool s.r.off, .bool s.r.over, .int .i64 s.r.err] ∧
    RunAt w r m g s.r ∧ ∀ k, g.ownBlock = some k → k ≠ r ∧ k ≠ m ∧ k ≠ c ∧ ¬ K k := by
  obtain ⟨g, h1, h2⟩ := h.run
  exact ⟨g, h1.obj, h1, h2⟩

/-- a run's own block is written: the run then -/
theorem RM.runSet {w w' : World} {K : Nat → Prop} {r m c : Nat} {g : Value} {s : St} {σ' : RunS} (H : RM w K r m c s)
    (h : RunAt w r m g s.r) (hgb : ∀ k, g.ownBlock = some k → k ≠ r ∧ k ≠ m ∧ k ≠ c ∧ ¬ K k) (k : Keeps (· ≠ r) w w')
    (hb : Blk w' r [.pointer (some ⟨m, 0, none⟩), g, .int .i64 σ'.pos, .bool σ'.inn, .bool σ'.may, .bool σ'.off, .bool σ'.over, .int .i64 σ'.err])
    (hl : σ'.log = s.r.log) (hle : σ'.pos ≤ s.r.log.length) (hm : s.r.log.length + (if σ'.may then 1 else 0) ≤ 1099511627776) : RM w' K r m c ⟨σ', s.m⟩ :=
  ⟨⟨g, ⟨hb, by rw [hl]; exact own_of_keep h.log k (fun b hb => (hgb b hb).1), by rw [hl]; exact hle, by rw [hl]; exact hm, by rw [hl]; exact h.range⟩, hgb⟩,
    H.mem.keep k (fun e => H.rm e.symm) (fun e => H.rc e.symm), H.rm, H.rc, H.kr, H.km, H.kc, fun b hb => by have := H.lt b hb; have := k.size; omega⟩

theorem func_nil (f : FuncId) (cap : Array Value) (w : World) :
    (binOp .eql 44 (.func (.func f) #[] cap) .nilFunc).run Try.prog w = .ok (.bool false) w := by kernel_rfl

set_option maxRecDepth 100000 in
set_option maxHeartbeats 400000 in
theorem run_step {w : World} {K : Nat → Prop} {r m c : Nat} {s : St} (h : RM w K r m c s) (hov : s.r.over = false) (hlen : s.r.log.length < 1099511627776)
    {α : Type} (f : FuncId) (cap : Array Value)
    (hent : ∀ (args : Array Value) (w : World), (callFunc f args).run Try.prog w = .ok (.enter f args) w) (t : Tree α) (R2 : World → Prop)
    (hp : ∀ w1, Keeps K w w1 → RM w1 K r m c ⟨s.r.begin, s.m⟩ → Calls Try.prog f (#[.pointer (some ⟨r, 0, none⟩)] ++ cap) w1 fun e w2 =>
      e = .returned (.tuple #[]) ∧ RM w2 K r m c (t.exec ⟨s.r.begin, s.m⟩).2 ∧ R2 w2) :
    Calls Try.prog 30 #[.pointer (some ⟨r, 0, none⟩), .func (.func f) #[] cap] w fun e w' =>
      e = .returned (.bool (s.step t).2.r.over) ∧ RM w' K r m c (s.step t).2 ∧ ∃ w2, R2 w2 ∧ Keeps (· ≠ r) w2 w' := by
  obtain ⟨g, hb, hrun, hgb⟩ := h.obj8
  have ⟨c0, c1, c2, c3, c4, c5, c6, c7, fz⟩ := hrun.facts
  rw [hov] at c6
  have H := hid h
  have HB := hid hb
  have HR := hid hrun
  have HP := hid hp
  have HL := hid hlen
  have HO := hid hov
  clear h hb hrun hp hlen hov
  refine calls_hide fun R' hR' => ?_
  have hnf := func_nil f cap
  go_enter Try.func30, Try.ntmps30
  go_wp2_with fail
  have hk : Keeps (· ≠ r) w ((((w.setCell ⟨r, 2, none⟩ (.int .i64 0)).setCell ⟨r, 3, none⟩ (.bool true)).setCell ⟨r, 4, none⟩ (.bool true)).setCell ⟨r, 5, none⟩ (.bool false)) :=
    ((((Keeps.refl _ w).setCell (by simp) _).setCell (by simp) _).setCell (by simp) _).setCell (by simp) _
  have hb1 := (((HB.out.set 2 (.int .i64 0)).set 3 (.bool true)).set 4 (.bool true)).set 5 (.bool false)
  simp only [List.set] at hb1
  have hRM := H.out.runSet (σ' := s.r.begin) HR.out hgb hk (by simpa [RunS.begin] using hb1) rfl (by simp [RunS.begin]) (by have := HL.out; simp [RunS.begin]; omega)
  refine (HP.out _ (keeps_one hk H.out.kr) hRM).mono ?_
  rintro e w2 ⟨rfl, hRM2, hR2⟩
  obtain ⟨g2, hb2, hrun2, hgb2⟩ := hRM2.obj8
  have ⟨d0, d1, d2, d3, d4, d5, d6, d7, fz2⟩ := hrun2.facts
  have HH2 := hid hR2
  have HM2 := hid hRM2
  have HB2 := hid hb2
  have HR2 := hid hrun2
  clear hRM2 hR2 hb2 hrun2 hk hb1 hRM c0 c1 c2 c3 c4 c5 c6 c7 fz
  have hst : (s.step t).2 = ⟨(t.exec ⟨s.r.begin, s.m⟩).2.r.finish, (t.exec ⟨s.r.begin, s.m⟩).2.m⟩ := rfl
  have HST := hid hst
  clear hst
  generalize (t.exec ⟨s.r.begin, s.m⟩).2 = s2 at *
  obtain ⟨⟨log, pos, inn, may, off, over, err⟩, μ2⟩ := s2
  simp only at d2 d3 d4 d5 d6 d7
  have hle2 : pos ≤ log.length := HR2.out.le
  have hro : log.length + (if may then 1 else 0) ≤ 1099511627776 := HR2.out.room
  have HRo := hid hro
  clear hro
  cases off
  · go_wp2
    have hk2 : Keeps (· ≠ r) w2 ((w2.setCell ⟨r, 3, none⟩ (.bool false)).setCell ⟨r, 6, none⟩ (.bool true)) :=
      ((Keeps.refl _ w2).setCell (by simp) _).setCell (by simp) _
    refine hR'.out _ _ ⟨by rw [HST.out]; rfl, ?_, w2, HH2.out, hk2⟩
    rw [HST.out]
    exact HM2.out.runSet (σ' := RunS.finish ⟨log, pos, inn, may, false, over, err⟩) HR2.out hgb2 hk2
      (by simpa [RunS.finish] using (HB2.out.set 3 (.bool false)).set 6 (.bool true)) rfl hle2 HRo.out
  · go_wp2
    have hk2 : Keeps (· ≠ r) w2 ((w2.setCell ⟨r, 3, none⟩ (.bool false)).setCell ⟨r, 6, none⟩ (.bool (err != 0))) :=
      ((Keeps.refl _ w2).setCell (by simp) _).setCell (by simp) _
    have he : (err != 0) = decide (err ≠ 0) := by by_cases h : err = 0 <;> simp [h]
    refine hR'.out _ _ ⟨by rw [HST.out, RunS.finish]; simp only [Bool.not_true, Bool.false_or, ← he]; rfl, ?_, w2, HH2.out, hk2⟩
    rw [HST.out]
    exact HM2.out.runSet (σ' := RunS.finish ⟨log, pos, inn, may, true, over, err⟩) HR2.out hgb2 hk2
      (by simpa [RunS.finish, he] using (HB2.out.set 3 (.bool false)).set 6 (.bool (err != 0))) rfl hle2 HRo.out
end Go.Proofs.Ytbmgmjfpoepgpaa
