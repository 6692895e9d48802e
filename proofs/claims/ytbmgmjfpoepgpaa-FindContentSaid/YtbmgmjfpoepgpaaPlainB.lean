/- Plain laws of runs: what a Step does, told by what is left of the program. -/
import Derived.Test.YtbmgmjfpoepgpaaPlainA
namespace Go.Proofs.Ytbmgmjfpoepgpaa
open Go.RowKit

namespace Tree
/-- up to the next access, or the end, where nothing is off -/
def norm {α : Type} : Tree α → Tree α
  | ret x => ret x
  | load a k => load a k
  | store a v k => store a v k
  | off k => (k false).norm
/-- what is left behind accesses that were answered so -/
def peel {α : Type} : Tree α → List Int → Tree α
  | ret x, _ => ret x
  | load a k, [] => load a k
  | load _ k, v :: L => (k v).peel L
  | store a v k, [] => store a v k
  | store _ _ k, _ :: L => k.peel L
  | off k, L => (k false).peel L
/-- are there so many accesses? -/
def takes {α : Type} : Tree α → List Int → Prop
  | ret _, L => L = []
  | load _ _, [] => True
  | load _ k, v :: L => (k v).takes L
  | store _ _ _, [] => True
  | store _ _ k, _ :: L => k.takes L
  | off k, L => (k false).takes L
def isRet {α : Type} : Tree α → Bool
  | ret _ => true
  | _ => false
/-- one access answered -/
def go {α : Type} : Tree α → Int → Tree α
  | load _ k, v => (k v).norm
  | store _ _ k, _ => k.norm
  | t, _ => t
/-- is the next one an access? -/
def acts {α : Type} : Tree α → Bool
  | load _ _ => true
  | store _ _ _ => true
  | _ => false

theorem peel_nil {α : Type} (t : Tree α) : t.peel [] = t.norm := by
  induction t with
  | ret x => rfl
  | load a k ih => rfl
  | store a v k ih => rfl
  | off k ih => exact ih false
theorem takes_nil {α : Type} (t : Tree α) : t.takes [] := by
  induction t with
  | ret x => exact rfl
  | load a k ih => trivial
  | store a v k ih => trivial
  | off k ih => exact ih false
theorem norm_norm {α : Type} (t : Tree α) : t.norm.norm = t.norm := by
  induction t with
  | ret x => rfl
  | load a k ih => rfl
  | store a v k ih => rfl
  | off k ih => exact ih false
theorem peel_norm {α : Type} (t : Tree α) : ∀ L, (t.peel L).norm = t.peel L := by
  induction t with
  | ret x => intro L; rfl
  | load a k ih => intro L; cases L with | nil => rfl | cons v L => exact ih v L
  | store a v k ih => intro L; cases L with | nil => rfl | cons v L => exact ih L
  | off k ih => intro L; exact ih false L
theorem peel_snoc {α : Type} (t : Tree α) : ∀ L v, (t.peel L).acts = true → t.takes L → t.peel (L ++ [v]) = (t.peel L).go v ∧ t.takes (L ++ [v]) := by
  induction t with
  | ret x => intro L v h; cases L <;> cases h
  | load a k ih =>
    intro L v h ht
    cases L with
    | nil => exact ⟨peel_nil _, takes_nil _⟩
    | cons u L => exact ih u L v h ht
  | store a x k ih =>
    intro L v h ht
    cases L with
    | nil => exact ⟨peel_nil _, takes_nil _⟩
    | cons u L => exact ih L v h ht
  | off k ih => intro L v h ht; exact ih false L v h ht
theorem norm_cases {α : Type} (t : Tree α) (h : t.norm = t) : (∃ x, t = ret x) ∨ (∃ a k, t = load a k) ∨ (∃ a v k, t = store a v k) := by
  cases t with
  | ret x => exact Or.inl ⟨x, rfl⟩
  | load a k => exact Or.inr (Or.inl ⟨a, k, rfl⟩)
  | store a v k => exact Or.inr (Or.inr ⟨a, v, k, rfl⟩)
  | off k =>
    exfalso
    have : ∀ (t u : Tree α), t.norm = u → ∀ k, u ≠ off k := by
      intro t
      induction t with
      | ret x => rintro u rfl k h; cases h
      | load a k ih => rintro u rfl k h; cases h
      | store a v k ih => rintro u rfl k h; cases h
      | off k ih => rintro u h; exact ih false u h
    exact this _ _ h k rfl
end Tree

theorem stepP_run {α : Type} {s : St} (h : s.r.over = false) (t : Tree α) : s.stepP t = (s.step t).2 := by
  unfold St.stepP; rw [if_neg (by rw [h]; decide)]
theorem stepP_over {α : Type} {s : St} (h : s.r.over = true) (t : Tree α) : s.stepP t = s := by
  unfold St.stepP; rw [if_pos h]

/-- nothing is done any more -/
theorem exec_off {α : Type} (t : Tree α) : ∀ s : St, s.r.off = true → (t.exec s).2 = s := by
  induction t with
  | ret x => intro s _; rfl
  | load a k ih =>
    intro s h
    have e : s.load a = (0, s) := by simp [St.load, RunS.turnK, RunS.turn, h]
    show ((k (s.load a).1).exec (s.load a).2).2 = s
    rw [e]; exact ih _ _ h
  | store a v k ih =>
    intro s h
    have e : s.store a v = s := by simp [St.store, RunS.turnK, RunS.turn, h]
    show (k.exec (s.store a v)).2 = s
    rw [e]; exact ih _ h
  | off k ih => intro s h; exact ih _ _ h

/-- behind the one access: to the end, or off at the next one -/
theorem exec_rest {α : Type} (t : Tree α) : ∀ s : St, s.r.inn = true → s.r.off = false → s.r.pos = s.r.log.length → s.r.may = false →
    (∀ x, t.norm = .ret x → t.exec s = (x, s)) ∧ (t.norm.isRet = false → (t.exec s).2 = ⟨{ s.r with off := true }, s.m⟩) := by
  induction t with
  | ret x => intro s _ _ _ _; exact ⟨fun y h => (by cases h; rfl), fun h => (by cases h)⟩
  | load a k ih =>
    intro s h1 h2 h3 h4
    refine ⟨fun y h => (by cases h), fun _ => ?_⟩
    have e : s.load a = (0, ⟨{ s.r with off := true }, s.m⟩) := by simp [St.load, RunS.turnK, RunS.turn, h1, h2, h3, h4]
    show ((k (s.load a).1).exec (s.load a).2).2 = _
    rw [e]; exact exec_off _ _ rfl
  | store a v k ih =>
    intro s h1 h2 h3 h4
    refine ⟨fun y h => (by cases h), fun _ => ?_⟩
    have e : s.store a v = ⟨{ s.r with off := true }, s.m⟩ := by simp [St.store, RunS.turnK, RunS.turn, h1, h2, h3, h4]
    show (k.exec (s.store a v)).2 = _
    rw [e]; exact exec_off _ _ rfl
  | off k ih =>
    intro s h1 h2 h3 h4
    have e : s.isOff = false := by simp [St.isOff, h1, h2]
    have := ih false s h1 h2 h3 h4
    show (∀ x, (k false).norm = .ret x → (k s.isOff).exec s = (x, s)) ∧ ((k false).norm.isRet = false → ((k s.isOff).exec s).2 = _)
    rw [e]; exact this

/-- what was made ahead is gone over -/
theorem exec_peel {α : Type} (t : Tree α) : ∀ (L : List Int) (s : St), s.r.inn = true → s.r.off = false → s.r.pos ≤ s.r.log.length → s.r.log.drop s.r.pos = L → t.takes L →
    t.exec s = (t.peel L).exec ⟨{ s.r with pos := s.r.log.length }, s.m⟩ := by
  induction t with
  | ret x =>
    intro L s h1 h2 h3 h4 h5
    have : L = [] := h5
    subst this
    have hp : s.r.pos = s.r.log.length := by
      have := congrArg List.length h4
      simp at this; omega
    show (x, s) = (x, _)
    rw [← hp]
  | load a k ih =>
    intro L s h1 h2 h3 h4 h5
    cases L with
    | nil =>
      have hp : s.r.pos = s.r.log.length := by
        have := congrArg List.length h4
        simp at this; omega
      show (Tree.load a k).exec s = (Tree.load a k).exec _
      rw [← hp]
    | cons v L =>
      have hlt : s.r.pos < s.r.log.length := by
        have := congrArg List.length h4
        simp at this; omega
      have hv : s.r.log.getD s.r.pos 0 = v := by
        have := congrArg (·[0]?) h4
        simp at this
        rw [List.getD_eq_getElem?_getD, this]; rfl
      have hd : s.r.log.drop (s.r.pos + 1) = L := by
        have := congrArg List.tail h4
        simpa using this
      have e : s.load a = (v, ⟨{ s.r with pos := s.r.pos + 1 }, s.m⟩) := by simp [St.load, RunS.turnK, RunS.turn, h1, h2, hlt, ← hv]
      show (k (s.load a).1).exec (s.load a).2 = _
      rw [e]
      exact ih v L ⟨{ s.r with pos := s.r.pos + 1 }, s.m⟩ h1 h2 hlt hd h5
  | store a x k ih =>
    intro L s h1 h2 h3 h4 h5
    cases L with
    | nil =>
      have hp : s.r.pos = s.r.log.length := by
        have := congrArg List.length h4
        simp at this; omega
      show (Tree.store a x k).exec s = (Tree.store a x k).exec _
      rw [← hp]
    | cons v L =>
      have hlt : s.r.pos < s.r.log.length := by
        have := congrArg List.length h4
        simp at this; omega
      have hd : s.r.log.drop (s.r.pos + 1) = L := by
        have := congrArg List.tail h4
        simpa using this
      have e : s.store a x = ⟨{ s.r with pos := s.r.pos + 1 }, s.m⟩ := by simp [St.store, RunS.turnK, RunS.turn, h1, h2, hlt]
      show k.exec (s.store a x) = _
      rw [e]
      exact ih L ⟨{ s.r with pos := s.r.pos + 1 }, s.m⟩ h1 h2 hlt hd h5
  | off k ih =>
    intro L s h1 h2 h3 h4 h5
    have e : s.isOff = false := by simp [St.isOff, h1, h2]
    show (k s.isOff).exec s = _
    rw [e]; exact ih false L s h1 h2 h3 h4 h5

/-- a run on its way: what of the program is left; nothing went wrong -/
structure Way {α : Type} (t : Tree α) (s : St) (rest : Tree α) : Prop where
  takes : t.takes s.r.log
  rest : t.peel s.r.log = rest
  err : s.r.err = 0
  over : s.r.over = false

/-- the three kinds of a Step of a run that is on its way -/
theorem way_end {α : Type} {t : Tree α} {s : St} {x : α} (h : Way t s (.ret x)) :
    s.step t = (x, ⟨⟨s.r.log, s.r.log.length, false, true, false, true, 0⟩, s.m⟩) := by
  have e := exec_peel t s.r.log ⟨s.r.begin, s.m⟩ rfl rfl (Nat.zero_le _) rfl h.takes
  rw [h.rest] at e
  unfold St.step
  rw [e]
  simp [Tree.exec, RunS.finish, RunS.begin, h.err]

theorem way_load {α : Type} {t : Tree α} {s : St} {a : Int} {k : Int → Tree α} (h : Way t s (.load a k)) (hi : s.m.inb a = true) :
    (s.step t).2 = ⟨⟨s.r.log ++ [s.m.at a], s.r.log.length + 1, false, false, !(k (s.m.at a)).norm.isRet, (k (s.m.at a)).norm.isRet, 0⟩, s.m.load a⟩ ∧
    (∀ x, (k (s.m.at a)).norm = .ret x → (s.step t).1 = x) := by
  have e := exec_peel t s.r.log ⟨s.r.begin, s.m⟩ rfl rfl (Nat.zero_le _) rfl h.takes
  rw [h.rest] at e
  have el : (⟨{ s.r.begin with pos := s.r.begin.log.length }, s.m⟩ : St).load a = (s.m.at a, ⟨⟨s.r.log ++ [s.m.at a], s.r.log.length + 1, true, false, false, s.r.over, 0⟩, s.m.load a⟩) := by
    simp [St.load, RunS.turnK, RunS.turn, RunS.begin, RunS.made, hi, h.err]
  have e2 : t.exec ⟨s.r.begin, s.m⟩ = (k (s.m.at a)).exec ⟨⟨s.r.log ++ [s.m.at a], s.r.log.length + 1, true, false, false, s.r.over, 0⟩, s.m.load a⟩ := by
    rw [e]
    show (k (St.load _ a).1).exec (St.load _ a).2 = _
    rw [el]
  have hr := exec_rest (k (s.m.at a)) ⟨⟨s.r.log ++ [s.m.at a], s.r.log.length + 1, true, false, false, s.r.over, 0⟩, s.m.load a⟩ rfl rfl (by simp) rfl
  unfold St.step
  rw [e2]
  cases hn : (k (s.m.at a)).norm.isRet
  · have := hr.2 hn
    rw [this]
    refine ⟨by simp [RunS.finish], fun x hx => ?_⟩
    rw [hx] at hn; cases hn
  · have : ∃ x, (k (s.m.at a)).norm = .ret x := by
      cases h : (k (s.m.at a)).norm <;> rw [h] at hn <;> first | exact ⟨_, rfl⟩ | cases hn
    obtain ⟨x, hx⟩ := this
    have := hr.1 x hx
    rw [this]
    refine ⟨by simp [RunS.finish], fun y hy => ?_⟩
    rw [hx] at hy; injection hy

theorem way_store {α : Type} {t : Tree α} {s : St} {a v : Int} {k : Tree α} (h : Way t s (.store a v k)) (hi : s.m.inb a = true) :
    (s.step t).2 = ⟨⟨s.r.log ++ [0], s.r.log.length + 1, false, false, !k.norm.isRet, k.norm.isRet, 0⟩, s.m.store a v⟩ ∧ (∀ x, k.norm = .ret x → (s.step t).1 = x) := by
  have e := exec_peel t s.r.log ⟨s.r.begin, s.m⟩ rfl rfl (Nat.zero_le _) rfl h.takes
  rw [h.rest] at e
  have el : (⟨{ s.r.begin with pos := s.r.begin.log.length }, s.m⟩ : St).store a v = ⟨⟨s.r.log ++ [0], s.r.log.length + 1, true, false, false, s.r.over, 0⟩, s.m.store a v⟩ := by
    simp [St.store, RunS.turnK, RunS.turn, RunS.begin, RunS.made, hi, h.err]
  have e2 : t.exec ⟨s.r.begin, s.m⟩ = k.exec ⟨⟨s.r.log ++ [0], s.r.log.length + 1, true, false, false, s.r.over, 0⟩, s.m.store a v⟩ := by
    rw [e]
    show k.exec (St.store _ a v) = _
    rw [el]
  have hr := exec_rest k ⟨⟨s.r.log ++ [0], s.r.log.length + 1, true, false, false, s.r.over, 0⟩, s.m.store a v⟩ rfl rfl (by simp) rfl
  unfold St.step
  rw [e2]
  cases hn : k.norm.isRet
  · have := hr.2 hn
    rw [this]
    refine ⟨by simp [RunS.finish], fun x hx => ?_⟩
    rw [hx] at hn; cases hn
  · have : ∃ x, k.norm = .ret x := by
      cases h : k.norm <;> rw [h] at hn <;> first | exact ⟨_, rfl⟩ | cases hn
    obtain ⟨x, hx⟩ := this
    have := hr.1 x hx
    rw [this]
    refine ⟨by simp [RunS.finish], fun y hy => ?_⟩
    rw [hx] at hy; injection hy

theorem way_load_out {α : Type} {t : Tree α} {s : St} {a : Int} {k : Int → Tree α} (h : Way t s (.load a k)) (hi : s.m.inb a = false) :
    (s.step t).2 = ⟨⟨s.r.log, s.r.log.length, false, false, true, true, 2⟩, s.m⟩ := by
  have e := exec_peel t s.r.log ⟨s.r.begin, s.m⟩ rfl rfl (Nat.zero_le _) rfl h.takes
  rw [h.rest] at e
  have el : (⟨{ s.r.begin with pos := s.r.begin.log.length }, s.m⟩ : St).load a = (0, ⟨⟨s.r.log, s.r.log.length, true, false, true, s.r.over, 2⟩, s.m⟩) := by
    simp [St.load, RunS.turnK, RunS.turn, RunS.begin, RunS.made, hi, MemS.load]
  unfold St.step
  rw [e]
  show (⟨RunS.finish ((k (St.load _ a).1).exec (St.load _ a).2).2.r, ((k (St.load _ a).1).exec (St.load _ a).2).2.m⟩ : St) = _
  rw [el, exec_off _ _ rfl]
  simp [RunS.finish]

theorem way_store_out {α : Type} {t : Tree α} {s : St} {a v : Int} {k : Tree α} (h : Way t s (.store a v k)) (hi : s.m.inb a = false) :
    (s.step t).2 = ⟨⟨s.r.log, s.r.log.length, false, false, true, true, 2⟩, s.m⟩ := by
  have e := exec_peel t s.r.log ⟨s.r.begin, s.m⟩ rfl rfl (Nat.zero_le _) rfl h.takes
  rw [h.rest] at e
  have el : (⟨{ s.r.begin with pos := s.r.begin.log.length }, s.m⟩ : St).store a v = ⟨⟨s.r.log, s.r.log.length, true, false, true, s.r.over, 2⟩, s.m⟩ := by
    simp [St.store, RunS.turnK, RunS.turn, RunS.begin, RunS.made, hi, MemS.store]
  unfold St.step
  rw [e]
  show (⟨RunS.finish (k.exec (St.store _ a v)).2.r, (k.exec (St.store _ a v)).2.m⟩ : St) = _
  rw [el, exec_off _ _ rfl]
  simp [RunS.finish]

/-- the beginning -/
theorem way_start {α : Type} (t : Tree α) (μ : MemS) (b1 b2 b3 : Bool) (p : Nat) : Way t ⟨⟨[], p, b1, b2, b3, false, 0⟩, μ⟩ t.norm :=
  ⟨t.takes_nil, t.peel_nil, rfl, rfl⟩

theorem norm_isRet_false {α : Type} {t : Tree α} (h : t.norm.isRet = false) : t.norm.acts = true := by
  rcases Tree.norm_cases t.norm (Tree.norm_norm t) with ⟨x, e⟩ | ⟨a, k, e⟩ | ⟨a, v, k, e⟩ <;> rw [e] at h ⊢ <;> first | rfl | cases h

/-- where it is not over behind an access, it is on its way -/
theorem way_next_load {α : Type} {t : Tree α} {s : St} {a : Int} {k : Int → Tree α} (h : Way t s (.load a k)) (hi : s.m.inb a = true) (hn : (k (s.m.at a)).norm.isRet = false) :
    Way t (s.step t).2 (k (s.m.at a)).norm := by
  have hs := (way_load h hi).1
  have hp := t.peel_snoc s.r.log (s.m.at a) (by rw [h.rest]; rfl) h.takes
  rw [hs]
  exact ⟨hp.2, by rw [hp.1, h.rest]; rfl, rfl, hn⟩
theorem way_next_store {α : Type} {t : Tree α} {s : St} {a v : Int} {k : Tree α} (h : Way t s (.store a v k)) (hi : s.m.inb a = true) (hn : k.norm.isRet = false) :
    Way t (s.step t).2 k.norm := by
  have hs := (way_store h hi).1
  have hp := t.peel_snoc s.r.log 0 (by rw [h.rest]; rfl) h.takes
  rw [hs]
  exact ⟨hp.2, by rw [hp.1, h.rest]; rfl, rfl, hn⟩
end Go.Proofs.Ytbmgmjfpoepgpaa
