/- Several runs over one memory. -/
import Derived.Test.YtjnaibmnpajfdaaRun
import Derived.Test.YtjnaibmnpajfdaaInit
namespace Go.Proofs.Ytjnaibmnpajfdaa
open Go.RowKit

structure OneS where
  r : Nat
  g : Value
  s : RunS
def OneS.fp (x : OneS) (b : Nat) : Prop := b = x.r ∨ x.g.ownBlock = some b

structure RSg (w : World) (K : Nat → Prop) (m c : Nat) (x : OneS) : Prop where
  run : RunAt w x.r m x.g x.s
  own : ∀ k, x.g.ownBlock = some k → k ≠ x.r ∧ k ≠ m ∧ k ≠ c ∧ ¬ K k
  rm : x.r ≠ m
  rc : x.r ≠ c
  kr : ¬ K x.r

theorem RSg.fp_lt {w : World} {K : Nat → Prop} {m c : Nat} {x : OneS} (h : RSg w K m c x) : ∀ b, x.fp b → b < w.heap.size := by
  rintro b (e | e)
  · rw [e]; exact h.run.obj.lt
  · exact own_ne h.run.log b e
theorem RSg.fp_no {w : World} {K : Nat → Prop} {m c : Nat} {x : OneS} (h : RSg w K m c x) : ∀ b, x.fp b → ¬ K b ∧ b ≠ m ∧ b ≠ c := by
  rintro b (e | e)
  · rw [e]; exact ⟨h.kr, h.rm, h.rc⟩
  · exact ⟨(h.own b e).2.2.2, (h.own b e).2.1, (h.own b e).2.2.1⟩
theorem RSg.keep {w w' : World} {K K' L : Nat → Prop} {m c : Nat} {x : OneS} (h : RSg w K m c x) (k : Keeps L w w') (hL : ∀ b, x.fp b → L b) (hn : ∀ b, x.fp b → ¬ K' b) : RSg w' K' m c x :=
  ⟨h.run.keep k (hL _ (Or.inl rfl)) (fun b hb => hL b (Or.inr hb)), fun b hb => ⟨(h.own b hb).1, (h.own b hb).2.1, (h.own b hb).2.2.1, hn b (Or.inr hb)⟩, h.rm, h.rc, hn _ (Or.inl rfl)⟩

def othersS (K : Nat → Prop) (L : List OneS) (i : Nat) (b : Nat) : Prop := K b ∨ ∃ j y, j ≠ i ∧ L[j]? = some y ∧ y.fp b
structure FamS (w : World) (K : Nat → Prop) (m c : Nat) (μ : MemS) (L : List OneS) : Prop where
  mem : MemAt w m c μ
  km : ¬ K m
  kc : ¬ K c
  lt : ∀ b, K b → b < w.heap.size
  all : ∀ (i : Nat) (x : OneS), L[i]? = some x → RSg w (othersS K L i) m c x

theorem FamS.olt {w : World} {K : Nat → Prop} {m c : Nat} {μ : MemS} {L : List OneS} (h : FamS w K m c μ L) (i : Nat) : ∀ b, othersS K L i b → b < w.heap.size := by
  rintro b (hb | ⟨j, y, hj, hy, hf⟩)
  · exact h.lt b hb
  · exact (h.all j y hy).fp_lt b hf
theorem FamS.rm {w : World} {K : Nat → Prop} {m c : Nat} {μ : MemS} {L : List OneS} (h : FamS w K m c μ L) {i : Nat} {x : OneS} (hx : L[i]? = some x) : RM w (othersS K L i) x.r m c ⟨x.s, μ⟩ := by
  have hq := h.all i x hx
  refine ⟨⟨x.g, hq.run, hq.own⟩, h.mem, hq.rm, hq.rc, hq.kr, ?_, ?_, h.olt i⟩
  · rintro (hb | ⟨j, y, hj, hy, hf⟩)
    · exact h.km hb
    · exact ((h.all j y hy).fp_no m hf).2.1 rfl
  · rintro (hb | ⟨j, y, hj, hy, hf⟩)
    · exact h.kc hb
    · exact ((h.all j y hy).fp_no c hf).2.2 rfl

theorem FamS.keep {w w' : World} {K L' : Nat → Prop} {m c : Nat} {μ : MemS} {L : List OneS} (h : FamS w K m c μ L) (k : Keeps L' w w') (hm : L' m) (hc : L' c) (hL : ∀ (i : Nat) (x : OneS), L[i]? = some x → ∀ b, x.fp b → L' b) : FamS w' K m c μ L :=
  ⟨h.mem.keep k hm hc, h.km, h.kc, fun b hb => by have := h.lt b hb; have := k.size; omega, fun i x hx => (h.all i x hx).keep k (hL i x hx) (fun b hb => ((h.all i x hx).fp_no b hb).1)⟩
theorem FamS.below {w w' : World} {K : Nat → Prop} {m c : Nat} {μ : MemS} {L : List OneS} (h : FamS w K m c μ L) (k : Keeps (· < w.heap.size) w w') : FamS w' K m c μ L :=
  h.keep k h.mem.obj.lt h.mem.cells.lt (fun i x hx b hb => (h.all i x hx).fp_lt b hb)
/-- more comes under guard -/
theorem FamS.more {w : World} {K K' : Nat → Prop} {m c : Nat} {μ : MemS} {L : List OneS} (h : FamS w K m c μ L) (hlt : ∀ b, K' b → b < w.heap.size) (hm : ¬ K' m) (hc : ¬ K' c) (hL : ∀ (i : Nat) (x : OneS), L[i]? = some x → ∀ b, x.fp b → ¬ K' b) : FamS w K' m c μ L :=
  ⟨h.mem, hm, hc, hlt, fun i x hx => (h.all i x hx).keep (Keeps.refl (fun _ => True) w) (fun _ _ => trivial) (fun b hb => by
    rintro (e | ⟨j, y, hj, hy, hf⟩)
    · exact hL i x hx b hb e
    · exact ((h.all i x hx).fp_no b hb).1 (Or.inr ⟨j, y, hj, hy, hf⟩))⟩

theorem FamS.step {w w' : World} {K : Nat → Prop} {m c : Nat} {μ : MemS} {L : List OneS} (h : FamS w K m c μ L) {i : Nat} {x : OneS} (hx : L[i]? = some x) {s' : St} (hR : RM w' (othersS K L i) x.r m c s')
    (hk : Keeps (othersS K L i) w w') : ∃ g', FamS w' K m c s'.m (L.set i ⟨x.r, g', s'.r⟩) := by
  obtain ⟨g', hg1, hg2⟩ := hR.run
  have hi : i < L.length := (List.getElem?_eq_some_iff.1 hx).1
  have hset : ∀ j y, j ≠ i → (L.set i ⟨x.r, g', s'.r⟩)[j]? = some y → L[j]? = some y := fun j y hj hy => by rwa [List.getElem?_set_ne (fun e => hj e.symm)] at hy
  have hg : RSg w' (othersS K L i) m c ⟨x.r, g', s'.r⟩ := ⟨hg1, hg2, hR.rm, hR.rc, hR.kr⟩
  refine ⟨g', hR.mem, h.km, h.kc, fun b hb => by have := h.lt b hb; have := hk.size; omega, fun j y hy => ?_⟩
  by_cases hj : j = i
  · subst hj
    rw [List.getElem?_set_self hi] at hy
    injection hy with hy
    subst hy
    refine hg.keep (Keeps.refl (fun _ => True) w') (fun _ _ => trivial) ?_
    rintro b hb (hK | ⟨l, z, hl, hz, hf⟩)
    · exact (hg.fp_no b hb).1 (Or.inl hK)
    · exact (hg.fp_no b hb).1 (Or.inr ⟨l, z, hl, hset l z hl hz, hf⟩)
  · have hy' := hset j y hj hy
    have hq := h.all j y hy'
    refine hq.keep hk (fun b hb => Or.inr ⟨j, y, hj, hy', hb⟩) ?_
    rintro b hb (hK | ⟨l, z, hl, hz, hf⟩)
    · exact (hq.fp_no b hb).1 (Or.inl hK)
    · by_cases hli : l = i
      · subst hli
        rw [List.getElem?_set_self hi] at hz
        injection hz with hz
        subst hz
        exact (hg.fp_no b hf).1 (Or.inr ⟨j, y, hj, hy', hb⟩)
      · exact (hq.fp_no b hb).1 (Or.inr ⟨l, z, hl, hset l z hli hz, hf⟩)

theorem FamS.nil {w : World} {K : Nat → Prop} {m c : Nat} {μ : MemS} (hm : MemAt w m c μ) (h1 : ¬ K m) (h2 : ¬ K c) (h : ∀ b, K b → b < w.heap.size) : FamS w K m c μ [] := ⟨hm, h1, h2, h, fun i x hx => by simp at hx⟩

/-- one run more, just made -/
theorem FamS.push {w w' : World} {K : Nat → Prop} {m c : Nat} {μ : MemS} {L : List OneS} (h : FamS w K m c μ L) {σ : RunS} (hr : RunAt w' w.heap.size m (.slice none 0 0) σ)
    (hk : Keeps (· < w.heap.size) w w') : FamS w' K m c μ (L ++ [⟨w.heap.size, .slice none 0 0, σ⟩]) := by
  have h1 := h.mem.obj.lt
  have h2 := h.mem.cells.lt
  have hget : ∀ j y, (L ++ [(⟨w.heap.size, .slice none 0 0, σ⟩ : OneS)])[j]? = some y → L[j]? = some y ∨ (j = L.length ∧ y = ⟨w.heap.size, .slice none 0 0, σ⟩) := by
    intro j y hy
    rcases Nat.lt_trichotomy j L.length with hj | hj | hj
    · rw [List.getElem?_append_left hj] at hy; exact Or.inl hy
    · subst hj; rw [List.getElem?_append_right (Nat.le_refl _)] at hy; simp at hy; exact Or.inr ⟨rfl, hy.symm⟩
    · rw [List.getElem?_eq_none (by simp; omega)] at hy; cases hy
  refine ⟨h.mem.keep hk h1 h2, h.km, h.kc, fun b hb => by have := h.lt b hb; have := hk.size; omega, fun i x hx => ?_⟩
  rcases hget i x hx with hx' | ⟨hi, rfl⟩
  · have hq := h.all i x hx'
    refine hq.keep hk (fun b hb => hq.fp_lt b hb) ?_
    rintro b hb (hK' | ⟨l, z, hl, hz', hf⟩)
    · exact (hq.fp_no b hb).1 (Or.inl hK')
    · rcases hget l z hz' with hz'' | ⟨_, rfl⟩
      · exact (hq.fp_no b hb).1 (Or.inr ⟨l, z, hl, hz'', hf⟩)
      · rcases hf with e | e
        · have := hq.fp_lt b hb; rw [e] at this; exact absurd this (Nat.lt_irrefl _)
        · cases e
  · refine ⟨hr, fun k hk => (by cases hk), ?_, ?_, ?_⟩
    · show w.heap.size ≠ m; omega
    · show w.heap.size ≠ c; omega
    · rintro (hK' | ⟨l, z, hl, hz', hf⟩)
      · have := h.lt _ hK'; exact Nat.lt_irrefl _ this
      · rcases hget l z hz' with hz'' | ⟨hl', _⟩
        · have := (h.all l z hz'').fp_lt _ hf; exact Nat.lt_irrefl _ this
        · omega

/-- a row of the caller's own grew by an append -/
theorem FamS.append {w w1 : World} {K : Nat → Prop} {v v' : Value} {m c : Nat} {μ : MemS} {L : List OneS} (h : FamS w K m c μ L) (hK : ∀ b, v.ownBlock = some b → K b) (hg : w.grownBy w1 v.ownBlock)
    (hf : v'.ownBlock = v.ownBlock ∨ ∃ b, v'.ownBlock = some b ∧ w.heap.size ≤ b) (hlt : ∀ b, v'.ownBlock = some b → b < w1.heap.size) :
    FamS w1 (fun b => K b ∨ v'.ownBlock = some b) m c μ L := by
  have hk : Keeps (fun b => b < w.heap.size ∧ some b ≠ v.ownBlock) w w1 := ⟨hg.os, hg.tape, hg.output, hg.size, fun b hb => hg.block b hb.1 hb.2⟩
  have hno : ∀ b, b < w.heap.size → ¬ K b → ¬ (v'.ownBlock = some b) := by
    intro b hb hn e
    rcases hf with h1 | ⟨b', h1, h2⟩
    · exact hn (hK b (by rw [← h1]; exact e))
    · rw [h1] at e; injection e with e; omega
  have hfp : ∀ (i : Nat) (x : OneS), L[i]? = some x → ∀ b, x.fp b → b < w.heap.size ∧ ¬ K b := fun i x hx b hb => ⟨(h.all i x hx).fp_lt b hb, fun e => ((h.all i x hx).fp_no b hb).1 (Or.inl e)⟩
  have h1 : FamS w1 K m c μ L := h.keep hk ⟨h.mem.obj.lt, fun e => h.km (hK m e.symm)⟩ ⟨h.mem.cells.lt, fun e => h.kc (hK c e.symm)⟩ (fun i x hx b hb => ⟨(hfp i x hx b hb).1, fun e => (hfp i x hx b hb).2 (hK b e.symm)⟩)
  refine h1.more ?_ ?_ ?_ ?_
  · rintro b (e | e)
    · exact h1.lt b e
    · exact hlt b e
  · rintro (e | e)
    · exact h.km e
    · exact hno m h.mem.obj.lt h.km e
  · rintro (e | e)
    · exact h.kc e
    · exact hno c h.mem.cells.lt h.kc e
  · rintro i x hx b hb (e | e)
    · exact (hfp i x hx b hb).2 e
    · exact hno b (hfp i x hx b hb).1 (hfp i x hx b hb).2 e
end Go.Proofs.Ytjnaibmnpajfdaa
