/- Plain laws of runs: what a step may do to the counts. -/
import Derived.Test.YtbmgmjfpoepgpaaTree
namespace Go.Proofs.Ytbmgmjfpoepgpaa
open Go.RowKit

def RunS.budget (r : RunS) : Nat := r.log.length + (if r.may then 1 else 0)
/-- all accesses to the memory are this run's -/
structure Acc (s : St) : Prop where
  l0 : 0 ≤ s.m.loads
  s0 : 0 ≤ s.m.stores
  sum : s.m.loads + s.m.stores = s.r.log.length

theorem turnK2 {r : RunS} (h : r.turnK = 2) : r.turn = { r with may := false } ∧ r.may = true ∧ r.inn = true ∧ r.off = false ∧ ¬ r.pos < r.log.length := by
  unfold RunS.turnK at h
  unfold RunS.turn
  split at h
  · cases h
  · rename_i h1
    rw [if_neg h1]
    split at h
    · cases h
    · rename_i h2
      rw [if_neg h2]
      split at h
      · cases h
      · rename_i h3
        rw [if_neg h3]
        simp at h1 h3
        exact ⟨rfl, h3, h1.1, h1.2, h2⟩
theorem turnKn {r : RunS} (_h : r.turnK ≠ 2) : r.turn.log = r.log ∧ (r.turn.may = r.may ∨ r.turnK = 2) ∧ r.turn.err = r.err ∧ r.turn.over = r.over ∧ r.turn.inn = r.inn := by
  unfold RunS.turn RunS.turnK
  split
  · exact ⟨rfl, Or.inl rfl, rfl, rfl, rfl⟩
  · split
    · exact ⟨rfl, Or.inl rfl, rfl, rfl, rfl⟩
    · split
      · exact ⟨rfl, Or.inl rfl, rfl, rfl, rfl⟩
      · exact ⟨rfl, Or.inr rfl, rfl, rfl, rfl⟩

/-- what an access is to the run and the memory -/
theorem load_way (s : St) (a : Int) :
    (s.r.turnK = 2 ∧ s.m.inb a = true ∧ s.load a = (s.m.at a, ⟨{ s.r with may := false, log := s.r.log ++ [s.m.at a], pos := s.r.pos + 1 }, { s.m with loads := wrap64 (s.m.loads + 1) }⟩)) ∨
    (s.r.turnK = 2 ∧ s.m.inb a = false ∧ s.load a = (0, ⟨{ s.r with may := false, err := 2, off := true }, s.m⟩)) ∨
    (s.r.turnK = 1 ∧ s.load a = (s.r.log.getD s.r.pos 0, ⟨{ s.r with pos := s.r.pos + 1 }, s.m⟩)) ∨
    (s.r.turnK = 0 ∧ ∃ o, s.load a = (0, ⟨{ s.r with off := o }, s.m⟩)) := by
  unfold St.load
  by_cases h2 : s.r.turnK = 2
  · have ht := (turnK2 h2).1
    rw [if_pos h2, ht]
    cases hi : s.m.inb a
    · exact Or.inr (Or.inl ⟨h2, rfl, by simp [MemS.load, hi, RunS.made]⟩)
    · exact Or.inl ⟨h2, rfl, by simp [MemS.load, hi, RunS.made]⟩
  · rw [if_neg h2]
    by_cases h1 : s.r.turnK = 1
    · rw [if_pos h1]
      refine Or.inr (Or.inr (Or.inl ⟨h1, ?_⟩))
      have : s.r.turn = { s.r with pos := s.r.pos + 1 } := by
        unfold RunS.turnK at h1
        unfold RunS.turn
        split at h1
        · cases h1
        · rename_i h; rw [if_neg h]
          split at h1
          · rename_i h'; rw [if_pos h']
          · split at h1 <;> cases h1
      rw [this]
    · rw [if_neg h1]
      refine Or.inr (Or.inr (Or.inr ⟨?_, ?_⟩))
      · unfold RunS.turnK at h1 h2 ⊢
        split
        · rfl
        · split
          · simp_all
          · split
            · rfl
            · simp_all
      · have : ∃ o, s.r.turn = { s.r with off := o } := by
          unfold RunS.turn
          unfold RunS.turnK at h1 h2
          split
          · exact ⟨s.r.off, rfl⟩
          · split
            · simp_all
            · split
              · exact ⟨true, rfl⟩
              · simp_all
        obtain ⟨o, e⟩ := this
        exact ⟨o, by rw [e]⟩

theorem store_way (s : St) (a v : Int) :
    (s.r.turnK = 2 ∧ s.m.inb a = true ∧ s.store a v = ⟨{ s.r with may := false, log := s.r.log ++ [0], pos := s.r.pos + 1 }, { s.m with cells := s.m.cells.set a.toNat v, stores := wrap64 (s.m.stores + 1) }⟩) ∨
    (s.r.turnK = 2 ∧ s.m.inb a = false ∧ s.store a v = ⟨{ s.r with may := false, err := 2, off := true }, s.m⟩) ∨
    (s.r.turnK = 1 ∧ s.store a v = ⟨{ s.r with pos := s.r.pos + 1 }, s.m⟩) ∨
    (s.r.turnK = 0 ∧ ∃ o, s.store a v = ⟨{ s.r with off := o }, s.m⟩) := by
  have hl := load_way s a
  unfold St.load at hl
  unfold St.store
  by_cases h2 : s.r.turnK = 2
  · have ht := (turnK2 h2).1
    rw [if_pos h2, ht]
    cases hi : s.m.inb a
    · exact Or.inr (Or.inl ⟨h2, rfl, by simp [MemS.store, hi, RunS.made]⟩)
    · exact Or.inl ⟨h2, rfl, by simp [MemS.store, hi, RunS.made]⟩
  · rw [if_neg h2] at hl ⊢
    rcases hl with ⟨h, _⟩ | ⟨h, _⟩ | ⟨h, e⟩ | ⟨h, o, e⟩
    · exact absurd h h2
    · exact absurd h h2
    · rw [if_pos h] at e
      exact Or.inr (Or.inr (Or.inl ⟨h, congrArg Prod.snd e⟩))
    · rw [if_neg (by omega)] at e
      exact Or.inr (Or.inr (Or.inr ⟨h, o, congrArg Prod.snd e⟩))

structure Grows (s s' : St) : Prop where
  acc : Acc s'
  le : s.r.log.length ≤ s'.r.log.length
  bud : s'.r.budget ≤ s.r.budget

theorem load_acc {s : St} (h : Acc s) (hb : s.r.budget ≤ 1099511627776) (a : Int) : Grows s (s.load a).2 := by
  obtain ⟨h0, h1, h2⟩ := h
  rcases load_way s a with ⟨k, i, e⟩ | ⟨k, i, e⟩ | ⟨k, e⟩ | ⟨k, o, e⟩ <;> rw [e]
  · have hm := (turnK2 k).2.1
    have hl : s.m.loads + 1 ≤ 1099511627777 := by unfold RunS.budget at hb; split at hb <;> omega
    refine ⟨⟨?_, h1, ?_⟩, by simp, by simp [RunS.budget, hm]⟩
    · show 0 ≤ wrap64 _; unfold wrap64; omega
    · show wrap64 _ + _ = _; unfold wrap64; simp; omega
  · have hm := (turnK2 k).2.1
    exact ⟨⟨h0, h1, h2⟩, Nat.le_refl _, by simp [RunS.budget]⟩
  · exact ⟨⟨h0, h1, h2⟩, Nat.le_refl _, Nat.le_refl _⟩
  · exact ⟨⟨h0, h1, h2⟩, Nat.le_refl _, Nat.le_refl _⟩

theorem store_acc {s : St} (h : Acc s) (hb : s.r.budget ≤ 1099511627776) (a v : Int) : Grows s (s.store a v) := by
  obtain ⟨h0, h1, h2⟩ := h
  rcases store_way s a v with ⟨k, i, e⟩ | ⟨k, i, e⟩ | ⟨k, e⟩ | ⟨k, o, e⟩ <;> rw [e]
  · have hm := (turnK2 k).2.1
    have hl : s.m.stores + 1 ≤ 1099511627777 := by unfold RunS.budget at hb; split at hb <;> omega
    refine ⟨⟨h0, ?_, ?_⟩, by simp, by simp [RunS.budget, hm]⟩
    · show 0 ≤ wrap64 _; unfold wrap64; omega
    · show _ + wrap64 _ = _; unfold wrap64; simp; omega
  · have hm := (turnK2 k).2.1
    exact ⟨⟨h0, h1, h2⟩, Nat.le_refl _, by simp [RunS.budget]⟩
  · exact ⟨⟨h0, h1, h2⟩, Nat.le_refl _, Nat.le_refl _⟩
  · exact ⟨⟨h0, h1, h2⟩, Nat.le_refl _, Nat.le_refl _⟩

theorem Grows.trans {a b c : St} (h : Grows a b) (k : Grows b c) : Grows a c := ⟨k.acc, Nat.le_trans h.le k.le, Nat.le_trans k.bud h.bud⟩

theorem exec_acc {α : Type} (t : Tree α) : ∀ s, Acc s → s.r.budget ≤ 1099511627776 → Grows s (t.exec s).2 := by
  induction t with
  | ret x => intro s h hb; exact ⟨h, Nat.le_refl _, Nat.le_refl _⟩
  | load a k ih =>
    intro s h hb
    have g := load_acc h hb a
    exact g.trans (ih _ _ g.acc (Nat.le_trans g.bud hb))
  | store a v k ih =>
    intro s h hb
    have g := store_acc h hb a v
    exact g.trans (ih _ g.acc (Nat.le_trans g.bud hb))
  | off k ih => intro s h hb; exact ih _ _ h hb

/-- a Step of whatever run -/
def St.stepP {α : Type} (s : St) (t : Tree α) : St := if s.r.over then s else (s.step t).2

theorem step_acc {α : Type} {s : St} (h : Acc s) (hb : s.r.log.length < 1099511627776) (t : Tree α) :
    Acc (s.stepP t) ∧ s.r.log.length ≤ (s.stepP t).r.log.length ∧ (s.stepP t).r.log.length ≤ s.r.log.length + 1 ∧ (s.r.over = true → s.stepP t = s) := by
  unfold St.stepP
  split
  · exact ⟨h, Nat.le_refl _, by omega, fun _ => rfl⟩
  · rename_i ho
    have g := exec_acc t ⟨s.r.begin, s.m⟩ ⟨h.l0, h.s0, h.sum⟩ (by simp [RunS.budget, RunS.begin]; omega)
    refine ⟨⟨g.acc.l0, g.acc.s0, g.acc.sum⟩, g.le, ?_, fun e => absurd e ho⟩
    exact Nat.le_trans (Nat.le_add_right _ _) g.bud
end Go.Proofs.Ytbmgmjfpoepgpaa
