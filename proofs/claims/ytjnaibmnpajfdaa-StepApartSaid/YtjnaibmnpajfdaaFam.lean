/- Several runs, each over a memory of its own, side by side. -/
import Derived.Test.YtjnaibmnpajfdaaFix03
import Derived.Test.YtjnaibmnpajfdaaPlainB
namespace Go.Proofs.Ytjnaibmnpajfdaa
open Go.RowKit

structure One where
  r : Nat
  m : Nat
  c : Nat
  g : Value
  s : St
def One.fp (x : One) (b : Nat) : Prop := b = x.r ∨ b = x.m ∨ b = x.c ∨ x.g.ownBlock = some b

/-- as RM, the log's slice told -/
structure RMg (w : World) (K : Nat → Prop) (x : One) : Prop where
  run : RunAt w x.r x.m x.g x.s.r
  own : ∀ k, x.g.ownBlock = some k → k ≠ x.r ∧ k ≠ x.m ∧ k ≠ x.c ∧ ¬ K k
  rest : RM w K x.r x.m x.c x.s

theorem RM.g {w : World} {K : Nat → Prop} {r m c : Nat} {s : St} (h : RM w K r m c s) : ∃ g, RMg w K ⟨r, m, c, g, s⟩ := by
  obtain ⟨g, h1, h2⟩ := h.run
  exact ⟨g, h1, h2, h⟩
theorem RMg.fp_lt {w : World} {K : Nat → Prop} {x : One} (h : RMg w K x) : ∀ b, x.fp b → b < w.heap.size := by
  rintro b (e | e | e | e)
  · rw [e]; exact h.run.obj.lt
  · rw [e]; exact h.rest.mem.obj.lt
  · rw [e]; exact h.rest.mem.cells.lt
  · exact own_ne h.run.log b e
theorem RMg.fp_no {w : World} {K : Nat → Prop} {x : One} (h : RMg w K x) : ∀ b, x.fp b → ¬ K b := by
  rintro b (e | e | e | e)
  · rw [e]; exact h.rest.kr
  · rw [e]; exact h.rest.km
  · rw [e]; exact h.rest.kc
  · exact (h.own b e).2.2.2
/-- its own blocks are kept, and none of them comes under the new guard -/
theorem RMg.keep {w w' : World} {K K' L : Nat → Prop} {x : One} (h : RMg w K x) (k : Keeps L w w') (hL : ∀ b, x.fp b → L b) (hK : ∀ b, K' b → b < w'.heap.size) (hn : ∀ b, x.fp b → ¬ K' b) : RMg w' K' x := by
  have e1 := h.run.keep k (hL _ (Or.inl rfl)) (fun b hb => hL b (Or.inr (Or.inr (Or.inr hb))))
  have e2 : ∀ k, x.g.ownBlock = some k → k ≠ x.r ∧ k ≠ x.m ∧ k ≠ x.c ∧ ¬ K' k := fun b hb => ⟨(h.own b hb).1, (h.own b hb).2.1, (h.own b hb).2.2.1, hn b (Or.inr (Or.inr (Or.inr hb)))⟩
  exact ⟨e1, e2, ⟨x.g, e1, e2⟩, h.rest.mem.keep k (hL _ (Or.inr (Or.inl rfl))) (hL _ (Or.inr (Or.inr (Or.inl rfl)))), h.rest.rm, h.rest.rc, hn _ (Or.inl rfl), hn _ (Or.inr (Or.inl rfl)), hn _ (Or.inr (Or.inr (Or.inl rfl))), hK⟩

def others (K : Nat → Prop) (L : List One) (i : Nat) (b : Nat) : Prop := K b ∨ ∃ j y, j ≠ i ∧ L[j]? = some y ∧ y.fp b
structure Fam (w : World) (K : Nat → Prop) (L : List One) : Prop where
  lt : ∀ b, K b → b < w.heap.size
  all : ∀ i x, L[i]? = some x → RMg w (others K L i) x

theorem Fam.below {w w' : World} {K : Nat → Prop} {L : List One} (h : Fam w K L) (k : Keeps (· < w.heap.size) w w') : Fam w' K L :=
  ⟨fun b hb => by have := h.lt b hb; have := k.size; omega, fun i x hx =>
    (h.all i x hx).keep k (fun b hb => (h.all i x hx).fp_lt b hb) (fun b hb => by have := (h.all i x hx).rest.lt b hb; have := k.size; omega) (h.all i x hx).fp_no⟩

theorem Fam.step {w w' : World} {K : Nat → Prop} {L : List One} (h : Fam w K L) {i : Nat} {x : One} (hx : L[i]? = some x) {s' : St} (hR : RM w' (others K L i) x.r x.m x.c s')
    (hk : Keeps (others K L i) w w') : ∃ g', Fam w' K (L.set i ⟨x.r, x.m, x.c, g', s'⟩) := by
  obtain ⟨g', hg⟩ := hR.g
  have hi : i < L.length := (List.getElem?_eq_some_iff.1 hx).1
  have hset : ∀ j y, j ≠ i → (L.set i ⟨x.r, x.m, x.c, g', s'⟩)[j]? = some y → L[j]? = some y := fun j y hj hy => by rwa [List.getElem?_set_ne (fun e => hj e.symm)] at hy
  refine ⟨g', fun b hb => by have := h.lt b hb; have := hk.size; omega, fun j y hy => ?_⟩
  by_cases hj : j = i
  · subst hj
    rw [List.getElem?_set_self hi] at hy
    injection hy with hy
    subst hy
    refine hg.keep (Keeps.refl (fun _ => True) w') (fun _ _ => trivial) ?_ ?_
    · rintro b (hb | ⟨l, z, hl, hz, hf⟩)
      · have := h.lt b hb; have := hk.size; omega
      · have := (h.all l z (hset l z hl hz)).fp_lt b hf; have := hk.size; omega
    · rintro b hb (hK | ⟨l, z, hl, hz, hf⟩)
      · exact hg.fp_no b hb (Or.inl hK)
      · exact hg.fp_no b hb (Or.inr ⟨l, z, hl, hset l z hl hz, hf⟩)
  · have hy' := hset j y hj hy
    have hq := h.all j y hy'
    refine hq.keep hk (fun b hb => Or.inr ⟨j, y, hj, hy', hb⟩) ?_ ?_
    · rintro b (hb | ⟨l, z, hl, hz, hf⟩)
      · have := h.lt b hb; have := hk.size; omega
      · by_cases hli : l = i
        · subst hli
          rw [List.getElem?_set_self hi] at hz
          injection hz with hz
          subst hz
          exact hg.fp_lt b hf
        · have := (h.all l z (hset l z hli hz)).fp_lt b hf; have := hk.size; omega
    · rintro b hb (hK | ⟨l, z, hl, hz, hf⟩)
      · exact hq.fp_no b hb (Or.inl hK)
      · by_cases hli : l = i
        · subst hli
          rw [List.getElem?_set_self hi] at hz
          injection hz with hz
          subst hz
          exact hg.fp_no b hf (Or.inr ⟨j, y, hj, hy', hb⟩)
        · exact hq.fp_no b hb (Or.inr ⟨l, z, hl, hset l z hli hz, hf⟩)

theorem Fam.nil {w : World} {K : Nat → Prop} (h : ∀ b, K b → b < w.heap.size) : Fam w K [] := ⟨h, fun i x hx => by simp at hx⟩

/-- one run more, just made, over a memory that lies there -/
theorem Fam.push {w w' : World} {K : Nat → Prop} {L : List One} (h : Fam w K L) {m c : Nat} {μ : MemS} {σ : RunS} (hm : MemAt w m c μ) (hr : RunAt w' w.heap.size m (.slice none 0 0) σ)
    (hk : Keeps (· < w.heap.size) w w') (hz : w'.heap.size = w.heap.size + 1) (hK : ¬ K m ∧ ¬ K c) (hL : ∀ (j : Nat) (y : One), L[j]? = some y → ¬ y.fp m ∧ ¬ y.fp c) :
    Fam w' K (L ++ [⟨w.heap.size, m, c, .slice none 0 0, ⟨σ, μ⟩⟩]) := by
  have h1 := hm.obj.lt
  have h2 := hm.cells.lt
  have hget : ∀ j y, (L ++ [(⟨w.heap.size, m, c, .slice none 0 0, ⟨σ, μ⟩⟩ : One)])[j]? = some y → L[j]? = some y ∨ (j = L.length ∧ y = ⟨w.heap.size, m, c, .slice none 0 0, ⟨σ, μ⟩⟩) := by
    intro j y hy
    rcases Nat.lt_trichotomy j L.length with hj | hj | hj
    · rw [List.getElem?_append_left hj] at hy; exact Or.inl hy
    · subst hj; rw [List.getElem?_append_right (Nat.le_refl _)] at hy; simp at hy; exact Or.inr ⟨rfl, hy.symm⟩
    · rw [List.getElem?_eq_none (by simp; omega)] at hy; cases hy
  refine ⟨fun b hb => by have := h.lt b hb; omega, fun i x hx => ?_⟩
  rcases hget i x hx with hx' | ⟨hi, rfl⟩
  · have hil : i < L.length := (List.getElem?_eq_some_iff.1 hx').1
    have hq := h.all i x hx'
    refine hq.keep hk (fun b hb => hq.fp_lt b hb) ?_ ?_
    · rintro b (hb | ⟨l, z, hl, hz', hf⟩)
      · have := h.lt b hb; omega
      · rcases hget l z hz' with hz'' | ⟨_, rfl⟩
        · have := (h.all l z hz'').fp_lt b hf; omega
        · rcases hf with e | e | e | e
          · rw [e]; show w.heap.size < _; omega
          · rw [e]; show m < _; omega
          · rw [e]; show c < _; omega
          · cases e
    · rintro b hb (hK' | ⟨l, z, hl, hz', hf⟩)
      · exact hq.fp_no b hb (Or.inl hK')
      · rcases hget l z hz' with hz'' | ⟨_, rfl⟩
        · exact hq.fp_no b hb (Or.inr ⟨l, z, hl, hz'', hf⟩)
        · rcases hf with e | e | e | e
          · have := hq.fp_lt b hb; rw [e] at this; exact absurd this (Nat.lt_irrefl _)
          · have e : b = m := e
            subst e; exact (hL i x hx').1 hb
          · have e : b = c := e
            subst e; exact (hL i x hx').2 hb
          · cases e
  · have hno : ∀ b, (b = w.heap.size ∨ b = m ∨ b = c) → ¬ others K (L ++ [⟨w.heap.size, m, c, .slice none 0 0, ⟨σ, μ⟩⟩]) i b := by
      rintro b hb (hK' | ⟨l, z, hl, hz', hf⟩)
      · rcases hb with e | e | e
        · have := h.lt b hK'; omega
        · exact hK.1 (e ▸ hK')
        · exact hK.2 (e ▸ hK')
      · rcases hget l z hz' with hz'' | ⟨hl', _⟩
        · rcases hb with e | e | e
          · have := (h.all l z hz'').fp_lt b hf; omega
          · exact (hL l z hz'').1 (e ▸ hf)
          · exact (hL l z hz'').2 (e ▸ hf)
        · omega
    have hlt' : ∀ b, others K (L ++ [⟨w.heap.size, m, c, .slice none 0 0, ⟨σ, μ⟩⟩]) i b → b < w'.heap.size := by
      rintro b (hK' | ⟨l, z, hl, hz', hf⟩)
      · have := h.lt b hK'; omega
      · rcases hget l z hz' with hz'' | ⟨hl', _⟩
        · have := (h.all l z hz'').fp_lt b hf; omega
        · omega
    refine ⟨hr, fun k hk => (by cases hk), ⟨_, hr, fun k hk => (by cases hk)⟩, hm.keep hk h1 h2, ?_, ?_, hno _ (Or.inl rfl), hno _ (Or.inr (Or.inl rfl)), hno _ (Or.inr (Or.inr rfl)), hlt'⟩
    · show w.heap.size ≠ m; omega
    · show w.heap.size ≠ c; omega

theorem exec_bud {α : Type} (t : Tree α) : ∀ s, (t.exec s).2.r.budget ≤ s.r.budget := by
  have hl : ∀ (s : St) a, (s.load a).2.r.budget ≤ s.r.budget := by
    intro s a
    rcases load_way s a with ⟨k, i, e⟩ | ⟨k, i, e⟩ | ⟨k, e⟩ | ⟨k, o, e⟩ <;> rw [e]
    · simp [RunS.budget, (turnK2 k).2.1]
    · simp [RunS.budget]
    · exact Nat.le_refl _
    · exact Nat.le_refl _
  have hs : ∀ (s : St) a v, (s.store a v).r.budget ≤ s.r.budget := by
    intro s a v
    rcases store_way s a v with ⟨k, i, e⟩ | ⟨k, i, e⟩ | ⟨k, e⟩ | ⟨k, o, e⟩ <;> rw [e]
    · simp [RunS.budget, (turnK2 k).2.1]
    · simp [RunS.budget]
    · exact Nat.le_refl _
    · exact Nat.le_refl _
  induction t with
  | ret x => intro s; exact Nat.le_refl _
  | load a k ih => intro s; exact Nat.le_trans (ih _ _) (hl s a)
  | store a v k ih => intro s; exact Nat.le_trans (ih _) (hs s a v)
  | off k ih => intro s; exact ih _ _

theorem step_len {α : Type} (s : St) (t : Tree α) : (s.stepP t).r.log.length ≤ s.r.log.length + 1 := by
  unfold St.stepP
  split
  · omega
  · exact Nat.le_trans (Nat.le_add_right _ _) (exec_bud t ⟨s.r.begin, s.m⟩)
end Go.Proofs.Ytjnaibmnpajfdaa
