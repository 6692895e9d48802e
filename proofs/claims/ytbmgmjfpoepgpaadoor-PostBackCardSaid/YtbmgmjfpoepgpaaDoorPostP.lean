/- Plain: slabs, chains of words. -/
import Derived.Test.YtbmgmjfpoepgpaaDoorPostA
import Derived.Test.YtbmgmjfpoepgpaaDoorPostW
import Derived.Test.YtbmgmjfpoepgpaaDoorPlainC
namespace Go.Proofs.YtbmgmjfpoepgpaaDoor
open Go.RowKit

/-- the pools of slabs: where each begins, and of how many slabs -/
structure Pools where
  b : Nat → Nat
  n : Nat → Nat
def sz (k : Nat) : Nat := match k with | 0 => 4 | 1 => 16 | 2 => 64 | _ => 256
structure Pools.ok (P : Pools) : Prop where
  b0 : 3 ≤ P.b 0
  b1 : P.b 1 = P.b 0 + 4 * P.n 0
  b2 : P.b 2 = P.b 1 + 16 * P.n 1
  b3 : P.b 3 = P.b 2 + 64 * P.n 2
  top : P.b 3 + 256 * P.n 3 ≤ 65536
/-- a plan that lays these pools -/
structure PlanM.lays (p : PlanM) (P : Pools) : Prop where
  b : ∀ k, k ≤ 3 → p.bK k = (P.b k : Int)
  s : ∀ k, k ≤ 3 → p.sK k = ((sz k * P.n k : Nat) : Int)

/-- x is the place 'at' of the slab i of the class k -/
def Pools.In (P : Pools) (k i x a : Nat) : Prop := k ≤ 3 ∧ i < P.n k ∧ a < sz k ∧ x = P.b k + sz k * i + a

theorem k_cases {k : Nat} (h : k ≤ 3) : k = 0 ∨ k = 1 ∨ k = 2 ∨ k = 3 := by omega

theorem cls_of {p : PlanM} {P : Pools} (hP : P.ok) (hl : p.lays P) {k i x a : Nat} (h : P.In k i x a) : p.cls (x : Int) = ((k : Int), (a : Int)) := by
  obtain ⟨hk, hi, ha, hx⟩ := h
  obtain ⟨b0, b1, b2, b3, top⟩ := hP
  have hb := hl.b
  have hs := hl.s
  have e0 := hb 0 (by omega); have e1 := hb 1 (by omega); have e2 := hb 2 (by omega); have e3 := hb 3 (by omega)
  have s0 := hs 0 (by omega); have s1 := hs 1 (by omega); have s2 := hs 2 (by omega); have s3 := hs 3 (by omega)
  simp only [sz] at s0 s1 s2 s3
  have hno : ∀ j, j < k → ¬ p.has j (x : Int) := by
    intro j hj hh
    unfold PlanM.has at hh
    have hj3 : j = 0 ∨ j = 1 ∨ j = 2 := by omega
    rcases k_cases hk with rfl | rfl | rfl | rfl <;> simp only [sz] at ha hx <;> rcases hj3 with rfl | rfl | rfl <;> first | omega | (simp only [e0, s0] at hh; omega) | (simp only [e1, s1] at hh; omega) | (simp only [e2, s2] at hh; omega)
  have hyes : p.has k (x : Int) := by
    unfold PlanM.has
    rcases k_cases hk with rfl | rfl | rfl | rfl <;> simp only [sz] at ha hx <;> first | (rw [e0, s0]; omega) | (rw [e1, s1]; omega) | (rw [e2, s2]; omega) | (rw [e3, s3]; omega)
  rw [PlanM.cls_at p x k hk hno hyes]
  refine Prod.ext rfl ?_
  show ((x : Int) - p.bK k) % szK k = (a : Int)
  rcases k_cases hk with rfl | rfl | rfl | rfl <;> simp only [sz] at ha hx <;> simp only [szK] <;> first | (rw [e0]; omega) | (rw [e1]; omega) | (rw [e2]; omega) | (rw [e3]; omega)

/-- the other way round -/
theorem in_of {p : PlanM} {P : Pools} (hP : P.ok) (hl : p.lays P) {x : Nat} (h : ¬ (p.cls (x : Int)).1 < 0) : ∃ k i a, P.In k i x a := by
  have hb := hl.b
  have hs := hl.s
  have key : ∀ k, k ≤ 3 → p.has k (x : Int) → ∃ i a, P.In k i x a := by
    intro k hk hh
    unfold PlanM.has at hh
    rw [hb k hk, hs k hk] at hh
    have hsz : 0 < sz k := by rcases k_cases hk with rfl | rfl | rfl | rfl <;> decide
    refine ⟨(x - P.b k) / sz k, (x - P.b k) % sz k, hk, ?_, Nat.mod_lt _ hsz, ?_⟩
    · rw [Nat.div_lt_iff_lt_mul hsz, Nat.mul_comm]; omega
    · have := Nat.div_add_mod (x - P.b k) (sz k)
      omega
  unfold PlanM.cls at h
  split at h
  · exact ⟨0, key 0 (by omega) (by assumption)⟩
  · split at h
    · exact ⟨1, key 1 (by omega) (by assumption)⟩
    · split at h
      · exact ⟨2, key 2 (by omega) (by assumption)⟩
      · split at h
        · exact ⟨3, key 3 (by omega) (by assumption)⟩
        · simp at h

theorem in_lt {P : Pools} (hP : P.ok) {k i x a : Nat} (h : P.In k i x a) : 3 ≤ x ∧ x < P.b 3 + 256 * P.n 3 := by
  obtain ⟨hk, hi, ha, hx⟩ := h
  obtain ⟨b0, b1, b2, b3, top⟩ := hP
  rcases k_cases hk with rfl | rfl | rfl | rfl <;> simp only [sz] at ha hx <;> omega
/-- a cell has one place -/
theorem in_uniq {P : Pools} (hP : P.ok) {k i x a k' i' a' : Nat} (h : P.In k i x a) (h' : P.In k' i' x a') : k = k' ∧ i = i' ∧ a = a' := by
  obtain ⟨hk, hi, ha, hx⟩ := h
  obtain ⟨hk', hi', ha', hx'⟩ := h'
  obtain ⟨b0, b1, b2, b3, top⟩ := hP
  rcases k_cases hk with rfl | rfl | rfl | rfl <;> rcases k_cases hk' with rfl | rfl | rfl | rfl <;> simp only [sz] at ha hx ha' hx' <;> first | omega | (refine ⟨rfl, ?_, ?_⟩ <;> omega)

/-- where the terms stand: of each the slab of its tail (class, number, place), or none -/
abbrev Tails := Nat → Option (Nat × Nat × Nat)
/-- the cells that are of use: of slabs that were taken, and not behind a tail -/
def Used (P : Pools) (q : Nat → Nat) (T : Tails) (x : Nat) : Prop :=
  ∃ k i a, P.In k i x a ∧ i < q k ∧ ∀ j a', T j = some (k, i, a') → a ≤ a'
/-- the words up to a tail, the newest first -/
inductive Chain (P : Pools) (μ : List Int) (A : Nat → Prop) : Nat → List Int → Prop
  | nil : Chain P μ A 0 []
  | mid {k i x a v : _} {l : List Int} : P.In k i (x + 1) (a + 2) → A (x + 1) → μ[x + 1]? = some v → Chain P μ A x l → Chain P μ A (x + 1) (v :: l)
  | first {k i x y v : _} {l : List Int} : P.In k i (x + 1) 1 → A (x + 1) → A x → μ[x + 1]? = some v → μ[x]? = some (y : Nat) → y ≤ x → Chain P μ A y l → Chain P μ A (x + 1) (v :: l)
theorem Chain.mono {P : Pools} {μ μ' : List Int} {A A' : Nat → Prop} {t : Nat} {l : List Int} (h : Chain P μ A t l) (hA : ∀ x, A x → A' x) (hm : ∀ x, A x → μ'[x]? = μ[x]?) : Chain P μ' A' t l := by
  induction h with
  | nil => exact .nil
  | mid h1 h2 h3 _ ih => exact .mid h1 (hA _ h2) ((hm _ h2).trans h3) ih
  | first h1 h2 h3 h4 h5 h6 _ ih => exact .first h1 (hA _ h2) (hA _ h3) ((hm _ h2).trans h4) ((hm _ h3).trans h5) h6 ih
theorem Chain.len {P : Pools} {μ : List Int} {A : Nat → Prop} {t : Nat} {l : List Int} (h : Chain P μ A t l) : l.length ≤ t := by
  induction h with
  | nil => exact Nat.le_refl _
  | mid h1 h2 h3 _ ih => simp; omega
  | first h1 h2 h3 h4 h5 h6 _ ih => simp; omega
theorem Chain.zero {P : Pools} {μ : List Int} {A : Nat → Prop} {l : List Int} (h : Chain P μ A 0 l) : l = [] := by
  cases h; rfl

/-- what holds between puts -/
structure PostInv (P : Pools) (μ : List Int) (q : Nat → Nat) (T : Tails) : Prop where
  qn : ∀ k, k ≤ 3 → q k ≤ P.n k
  slab : ∀ j k i a, T j = some (k, i, a) → k ≤ 3 ∧ i < q k ∧ 1 ≤ a ∧ a < sz k
  apart : ∀ j j' k i a a', T j = some (k, i, a) → T j' = some (k, i, a') → j = j'
  zero : ∀ k i x a, P.In k i x a → q k ≤ i → μ[x]? = some 0
/-- the tail's cell -/
def tailOf (P : Pools) : Option (Nat × Nat × Nat) → Nat
  | none => 0
  | some (k, i, a) => P.b k + sz k * i + a
end Go.Proofs.YtbmgmjfpoepgpaaDoor
