/- Plain laws of runs: a program that nobody disturbs. -/
import Derived.Test.YtbmgmjfpoepgpaaPlainB
namespace Go.Proofs.Ytbmgmjfpoepgpaa
open Go.RowKit

namespace Tree
/-- the program at once: its result, the cells behind it, how many accesses; none: at an address without a cell -/
def ideal {α : Type} : Tree α → List Int → Option (α × List Int × Nat)
  | ret x, cs => some (x, cs, 0)
  | load a k, cs => if 0 ≤ a ∧ a < cs.length then ((k (cs.getD a.toNat 0)).ideal cs).map fun y => (y.1, y.2.1, y.2.2 + 1) else none
  | store a v k, cs => if 0 ≤ a ∧ a < cs.length then (k.ideal (cs.set a.toNat v)).map fun y => (y.1, y.2.1, y.2.2 + 1) else none
  | off k, cs => (k false).ideal cs
theorem ideal_norm {α : Type} (t : Tree α) (cs : List Int) : t.norm.ideal cs = t.ideal cs := by
  induction t with
  | ret x => rfl
  | load a k ih => rfl
  | store a v k ih => rfl
  | off k ih => exact ih false
theorem ideal_ret {α : Type} {t : Tree α} {cs cs' : List Int} {x : α} {n : Nat} (h : t.ideal cs = some (x, cs', n)) (hr : t.norm.isRet = true) : t.norm = .ret x ∧ cs' = cs ∧ n = 0 := by
  rw [← ideal_norm] at h
  cases ht : t.norm with
  | ret y => rw [ht] at h; injection h with h; injection h with h1 h2; injection h2 with h2 h3; subst h1; exact ⟨rfl, h2.symm, h3.symm⟩
  | load a k => rw [ht] at hr; cases hr
  | store a v k => rw [ht] at hr; cases hr
  | off k => rw [ht] at hr; cases hr
theorem ideal_bind {α β : Type} (t : Tree α) (f : α → Tree β) : ∀ cs, (t.bind f).ideal cs = (t.ideal cs).bind fun y => ((f y.1).ideal y.2.1).map fun z => (z.1, z.2.1, z.2.2 + y.2.2) := by
  induction t with
  | ret x =>
    intro cs
    show (f x).ideal cs = ((f x).ideal cs).map _
    cases (f x).ideal cs <;> rfl
  | load a k ih =>
    intro cs
    show (if 0 ≤ a ∧ a < cs.length then _ else _) = Option.bind (if 0 ≤ a ∧ a < cs.length then _ else _) _
    split
    · show (((k _).bind f).ideal cs).map _ = _
      rw [ih]
      cases (k (cs.getD a.toNat 0)).ideal cs with
      | none => rfl
      | some y =>
        show (((f y.1).ideal y.2.1).map _).map _ = ((f y.1).ideal y.2.1).map _
        cases (f y.1).ideal y.2.1 <;> simp <;> omega
    · rfl
  | store a v k ih =>
    intro cs
    show (if 0 ≤ a ∧ a < cs.length then _ else _) = Option.bind (if 0 ≤ a ∧ a < cs.length then _ else _) _
    split
    · show ((k.bind f).ideal _).map _ = _
      rw [ih]
      cases k.ideal (cs.set a.toNat v) with
      | none => rfl
      | some y =>
        show (((f y.1).ideal y.2.1).map _).map _ = ((f y.1).ideal y.2.1).map _
        cases (f y.1).ideal y.2.1 <;> simp <;> omega
    · rfl
  | off k ih => intro cs; exact ih false cs
end Tree

theorem inb_iff (μ : MemS) (a : Int) : μ.inb a = true ↔ 0 ≤ a ∧ a < μ.cells.length := by simp [MemS.inb]

/-- a Step of a program that is left alone -/
theorem ideal_step {α : Type} {t rest : Tree α} {s : St} {x : α} {cs' : List Int} {n : Nat} (h : Way t s rest) (hi : rest.ideal s.m.cells = some (x, cs', n)) :
    (n ≤ 1 ∧ (s.step t).2.r.over = true ∧ (s.step t).2.r.err = 0 ∧ (s.step t).2.m.cells = cs' ∧ (s.step t).2.r.log.length = s.r.log.length + n ∧ (s.step t).1 = x) ∨
    (1 < n ∧ (s.step t).2.r.over = false ∧ ∃ rest', Way t (s.step t).2 rest' ∧ rest'.ideal (s.step t).2.m.cells = some (x, cs', n - 1) ∧ (s.step t).2.r.log.length = s.r.log.length + 1) := by
  have hn : rest.norm = rest := by rw [← h.rest]; exact t.peel_norm _
  rcases rest.norm_cases hn with ⟨y, e⟩ | ⟨a, k, e⟩ | ⟨a, v, k, e⟩
  · subst e
    injection hi with hi; injection hi with h1 h2; injection h2 with h2 h3
    subst h1 h2 h3
    rw [way_end h]
    exact Or.inl ⟨by omega, rfl, rfl, rfl, rfl, rfl⟩
  · subst e
    unfold Tree.ideal at hi
    split at hi
    · rename_i hin
      have hb : s.m.inb a = true := (inb_iff _ _).2 hin
      have hv : s.m.cells.getD a.toNat 0 = s.m.at a := rfl
      rw [hv] at hi
      obtain ⟨y, hy, hy2⟩ := Option.map_eq_some_iff.1 hi
      injection hy2 with h1 h2; injection h2 with h2 h3
      obtain ⟨w1, w2⟩ := way_load h hb
      have hc : (s.step t).2.m.cells = s.m.cells := by rw [w1]; simp [MemS.load, hb]
      have hl : (s.step t).2.r.log.length = s.r.log.length + 1 := by rw [w1]; simp
      cases hr : (k (s.m.at a)).norm.isRet
      · refine Or.inr ⟨?_, by rw [w1]; exact hr, _, way_next_load h hb hr, ?_, hl⟩
        · have : y.2.2 ≠ 0 := by
            intro h0
            have := (Tree.ideal_norm (k (s.m.at a)) s.m.cells).trans hy
            rcases Tree.norm_cases _ (Tree.norm_norm (k (s.m.at a))) with ⟨z, e⟩ | ⟨b, k', e⟩ | ⟨b, v', k', e⟩
            · rw [e] at hr; cases hr
            · rw [e] at this; unfold Tree.ideal at this
              split at this
              · obtain ⟨z, _, hz⟩ := Option.map_eq_some_iff.1 this
                rw [← hz] at h0; simp at h0
              · cases this
            · rw [e] at this; unfold Tree.ideal at this
              split at this
              · obtain ⟨z, _, hz⟩ := Option.map_eq_some_iff.1 this
                rw [← hz] at h0; simp at h0
              · cases this
          omega
        · rw [hc, Tree.ideal_norm, hy]
          obtain ⟨y1, y2, y3⟩ := y
          simp only at h1 h2 h3
          subst h1 h2 h3
          rfl
      · obtain ⟨z1, z2, z3⟩ := Tree.ideal_ret (x := y.1) (cs' := y.2.1) (n := y.2.2) hy hr
        refine Or.inl ⟨by omega, by rw [w1]; exact hr, by rw [w1], by rw [hc, ← h2, z2], by rw [hl]; omega, ?_⟩
        rw [w2 _ z1, h1]
    · cases hi
  · subst e
    unfold Tree.ideal at hi
    split at hi
    · rename_i hin
      have hb : s.m.inb a = true := (inb_iff _ _).2 hin
      obtain ⟨y, hy, hy2⟩ := Option.map_eq_some_iff.1 hi
      injection hy2 with h1 h2; injection h2 with h2 h3
      obtain ⟨w1, w2⟩ := way_store h hb
      have hc : (s.step t).2.m.cells = s.m.cells.set a.toNat v := by rw [w1]; simp [MemS.store, hb]
      have hl : (s.step t).2.r.log.length = s.r.log.length + 1 := by rw [w1]; simp
      cases hr : k.norm.isRet
      · refine Or.inr ⟨?_, by rw [w1]; exact hr, _, way_next_store h hb hr, ?_, hl⟩
        · have : y.2.2 ≠ 0 := by
            intro h0
            have := (Tree.ideal_norm k (s.m.cells.set a.toNat v)).trans hy
            rcases Tree.norm_cases _ (Tree.norm_norm k) with ⟨z, e⟩ | ⟨b, k', e⟩ | ⟨b, v', k', e⟩
            · rw [e] at hr; cases hr
            · rw [e] at this; unfold Tree.ideal at this
              split at this
              · obtain ⟨z, _, hz⟩ := Option.map_eq_some_iff.1 this
                rw [← hz] at h0; simp at h0
              · cases this
            · rw [e] at this; unfold Tree.ideal at this
              split at this
              · obtain ⟨z, _, hz⟩ := Option.map_eq_some_iff.1 this
                rw [← hz] at h0; simp at h0
              · cases this
          omega
        · rw [hc, Tree.ideal_norm, hy]
          obtain ⟨y1, y2, y3⟩ := y
          simp only at h1 h2 h3
          subst h1 h2 h3
          rfl
      · obtain ⟨z1, z2, z3⟩ := Tree.ideal_ret (x := y.1) (cs' := y.2.1) (n := y.2.2) hy hr
        refine Or.inl ⟨by omega, by rw [w1]; exact hr, by rw [w1], by rw [hc, ← h2, z2], by rw [hl]; omega, ?_⟩
        rw [w2 _ z1, h1]
    · cases hi
end Go.Proofs.Ytbmgmjfpoepgpaa
