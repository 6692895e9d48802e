/- Plain: a walk that is disturbed by puts. -/
import Derived.Test.YtbmgmjfpoepgpaaDoorNeedsP
namespace Go.Proofs.YtbmgmjfpoepgpaaDoor
open Go.RowKit

namespace Tree
/-- the program reads, over these cells, only at A, and stores nothing -/
def Only {α : Type} (A : Nat → Prop) : Tree α → List Int → Prop
  | ret _, _ => True
  | load a k, μ => 0 ≤ a ∧ a.toNat < μ.length ∧ A a.toNat ∧ Only A (k (μ.getD a.toNat 0)) μ
  | store _ _ _, _ => False
  | off k, μ => Only A (k false) μ
theorem only_norm {α : Type} {A : Nat → Prop} (t : Tree α) (μ : List Int) (h : Only A t μ) : Only A t.norm μ := by
  induction t with
  | ret x => exact h
  | load a k ih => exact h
  | store a v k ih => exact h
  | off k ih => exact ih false h
theorem only_turn {α : Type} {A A' : Nat → Prop} {μ μ' : List Int} (hA : ∀ x, A x → A' x) (hm : ∀ x, A x → μ'[x]? = μ[x]?) (t : Tree α) :
    Only A t μ → Only A' t μ' ∧ ∀ x n, t.ideal μ = some (x, μ, n) → t.ideal μ' = some (x, μ', n) := by
  induction t with
  | ret x =>
    intro _
    refine ⟨trivial, fun y n h => ?_⟩
    unfold ideal at h ⊢
    injection h with h; injection h with h1 h2; injection h2 with _ h3
    rw [h1, h3]
  | load a k ih =>
    intro h
    obtain ⟨h0, h1, h2, h3⟩ := h
    have e := hm _ h2
    have hl : a.toNat < μ'.length := by
      rw [List.getElem?_eq_getElem h1] at e
      exact (List.getElem?_eq_some_iff.1 e).1
    have hd : μ'.getD a.toNat 0 = μ.getD a.toNat 0 := by rw [List.getD_eq_getElem?_getD, List.getD_eq_getElem?_getD, e]
    obtain ⟨i1, i2⟩ := ih _ h3
    refine ⟨⟨h0, hl, hA _ h2, by rw [hd]; exact i1⟩, fun x n h => ?_⟩
    unfold ideal at h ⊢
    rw [if_pos ⟨h0, by omega⟩] at h ⊢
    rw [hd]
    obtain ⟨y, hy, hy2⟩ := Option.map_eq_some_iff.1 h
    obtain ⟨y1, y2, y3⟩ := y
    injection hy2 with g1 g2; injection g2 with g2 g3
    simp only at g1 g2 g3
    subst g1 g2
    rw [i2 _ _ hy]
    simp [g3]
  | store a v k ih => intro h; exact h.elim
  | off k ih =>
    intro h
    exact ih false h
end Tree

/-- where a walk stands: what it will answer, behind how many accesses -/
def PSt {α : Type} (t : Tree α) (A : Nat → Prop) (x : α) (S : St) (d : Nat) : Prop :=
  S.r.over = true ∨ (S.r.over = false ∧ ∃ rest, Way t S rest ∧ rest.ideal S.m.cells = some (x, S.m.cells, d) ∧ rest.Only A S.m.cells)
theorem PSt.turn {α : Type} {t : Tree α} {A A' : Nat → Prop} {x : α} {S : St} {d : Nat} (h : PSt t A x S d) (μ : MemS) (hA : ∀ x, A x → A' x) (hm : ∀ x, A x → μ.cells[x]? = S.m.cells[x]?) : PSt t A' x ⟨S.r, μ⟩ d := by
  rcases h with h | ⟨h1, rest, h2, h3, h4⟩
  · exact Or.inl h
  · obtain ⟨i1, i2⟩ := Tree.only_turn hA hm rest h4
    exact Or.inr ⟨h1, rest, ⟨h2.takes, h2.rest, h2.err, h2.over⟩, i2 _ _ h3, i1⟩
/-- a Step of it -/
theorem pst_step {α : Type} {t rest : Tree α} {A : Nat → Prop} {x : α} {s : St} {d : Nat} (h : Way t s rest) (hi : rest.ideal s.m.cells = some (x, s.m.cells, d)) (ho : rest.Only A s.m.cells) :
    (s.step t).2.m.cells = s.m.cells ∧ (s.step t).2.r.log.length ≤ s.r.log.length + 1 ∧
    (((s.step t).2.r.over = true ∧ (s.step t).1 = x) ∨ (∃ d', d = d' + 1 ∧ PSt t A x (s.step t).2 d' ∧ (s.step t).2.r.over = false)) := by
  have hn : rest.norm = rest := by rw [← h.rest]; exact t.peel_norm _
  rcases rest.norm_cases hn with ⟨y, e⟩ | ⟨a, k, e⟩ | ⟨a, v, k, e⟩
  · subst e
    injection hi with hi; injection hi with h1 h2
    subst h1
    rw [way_end h]
    exact ⟨rfl, Nat.le_succ _, Or.inl ⟨rfl, rfl⟩⟩
  · subst e
    obtain ⟨o0, o1, o2, o3⟩ := ho
    unfold Tree.ideal at hi
    rw [if_pos ⟨o0, by omega⟩] at hi
    have hb : s.m.inb a = true := (inb_iff _ _).2 ⟨o0, by omega⟩
    have hv : s.m.cells.getD a.toNat 0 = s.m.at a := rfl
    rw [hv] at hi o3
    obtain ⟨y, hy, hy2⟩ := Option.map_eq_some_iff.1 hi
    obtain ⟨y1, y2, y3⟩ := y
    injection hy2 with g1 g2; injection g2 with g2 g3
    simp only at g1 g2 g3
    subst g1 g2
    obtain ⟨w1, w2⟩ := way_load h hb
    have hc : (s.step t).2.m.cells = s.m.cells := by rw [w1]; simp [MemS.load, hb]
    have hl : (s.step t).2.r.log.length = s.r.log.length + 1 := by rw [w1]; simp
    cases hr : (k (s.m.at a)).norm.isRet
    · refine ⟨hc, by omega, Or.inr ⟨y3, g3.symm, Or.inr ⟨by rw [w1]; exact hr, _, way_next_load h hb hr, ?_, ?_⟩, by rw [w1]; exact hr⟩⟩
      · rw [hc, Tree.ideal_norm, hy]
      · rw [hc]; exact Tree.only_norm _ _ o3
    · obtain ⟨z1, z2, z3⟩ := Tree.ideal_ret hy hr
      exact ⟨hc, by omega, Or.inl ⟨by rw [w1]; exact hr, w2 _ z1⟩⟩
  · subst e
    exact ho.elim

/-- a walk up to a tail reads cells of use alone -/
theorem walk_only {p : PlanM} {P : Pools} (hP : P.ok) (hl : p.lays P) {μ : List Int} {A : Nat → Prop} {t : Nat} {ws : List Int} (h : Chain P μ A t ws) :
    ∀ (n : Nat) (acc : List Int), (walkT p n (t : Int) acc).Only A μ := by
  induction h with
  | nil =>
    intro n acc
    cases n with
    | zero => trivial
    | succ n =>
      unfold walkT
      rw [if_pos (Or.inl (by simpa using cls_zero hP hl))]
      trivial
  | mid h1 h2 h3 h4 ih =>
    rename_i k i x a v l
    intro n acc
    cases n with
    | zero => trivial
    | succ n =>
      have hcl := cls_of hP hl h1
      have hlt := (List.getElem?_eq_some_iff.1 h3).1
      unfold walkT
      rw [hcl]
      simp only
      rw [if_neg (by omega)]
      have e1 : ((x + 1 : Nat) : Int).toNat = x + 1 := by omega
      have e2 : ((x + 1 : Nat) : Int) - 1 = (x : Int) := by omega
      refine ⟨by omega, by rw [e1]; exact hlt, by rw [e1]; exact h2, ?_⟩
      simp only [Tree.Only, Bool.false_eq_true, if_false]
      rw [if_neg (by omega), e2]
      exact ih _ _
  | first h1 h2 h3 h4 h5 h6 h7 ih =>
    rename_i k i x y v l
    intro n acc
    cases n with
    | zero => trivial
    | succ n =>
      have hcl := cls_of hP hl h1
      have hlt := (List.getElem?_eq_some_iff.1 h4).1
      have hlt5 := (List.getElem?_eq_some_iff.1 h5).1
      unfold walkT
      rw [hcl]
      simp only
      rw [if_neg (by omega)]
      have e1 : ((x + 1 : Nat) : Int).toNat = x + 1 := by omega
      have e2 : (((x + 1 : Nat) : Int) - 1).toNat = x := by omega
      refine ⟨by omega, by rw [e1]; exact hlt, by rw [e1]; exact h2, ?_⟩
      simp only [Tree.Only, Bool.false_eq_true, if_false]
      rw [if_pos (show ((1 : Nat) : Int) = 1 from rfl)]
      refine ⟨by omega, by rw [e2]; exact hlt5, by rw [e2]; exact h3, ?_⟩
      rw [e2, getD_of h5]
      exact ih _ _

/-- a run stays one where the memory's cells and blocks under guard are turned -/
theorem RM.beside {w w' : World} {K : Nat → Prop} {r m c : Nat} {s : St} {μ : MemS} (h : RM w K r m c s) {L : Nat → Prop} (hm : MemAt w' m c μ) (hk : Keeps L w w') (hL : ∀ b, b < w.heap.size → b ≠ m → b ≠ c → ¬ K b → L b) : RM w' K r m c ⟨s.r, μ⟩ := by
  obtain ⟨g, h1, h2⟩ := h.run
  exact ⟨⟨g, h1.keep hk (hL r h1.obj.lt h.rm h.rc h.kr) (fun b hb => hL b (own_ne h1.log b hb) (h2 b hb).2.1 (h2 b hb).2.2.1 (h2 b hb).2.2.2), h2⟩, hm, h.rm, h.rc, h.kr, h.km, h.kc, fun b hb => by have := h.lt b hb; have := hk.size; omega⟩
/-- a slice is kept where its cells are -/
theorem SlAt.keepC {w w' : World} {K L : Nat → Prop} {n : Nat} {v : Value} {xs : List Value} (h : SlAt w K 1 v n xs) (k : Keeps L w w') (hL : ∀ b, b < w.heap.size → K b → L b) : SlAt w' K 1 v n xs := by
  obtain ⟨A, cap, h1, h2, h3, h4, h5⟩ := h
  refine ⟨A, cap, h1, h2, h3, h4, fun hn => ?_⟩
  obtain ⟨b, off, e, hb, hc⟩ := h5 hn
  exact ⟨b, off, e, hb, fun j u hu => (World.cell?_of_block (k.block b (hL b (World.block_lt_of_cell? w _ (hc j u hu)) hb))).trans (hc j u hu)⟩
end Go.Proofs.YtbmgmjfpoepgpaaDoor
