/- Plain: words that are added to terms, and the tails that were. -/
import Derived.Test.YtbmgmjfpoepgpaaDoorPutX
import Derived.Deep.AppendLies
namespace Go.Proofs.YtbmgmjfpoepgpaaDoor
open Go.RowKit

/-- of each term: the words, and the tails behind each -/
structure BackInv (P : Pools) (μ : List Int) (q : Nat → Nat) (T : Tails) (A : Nat → List Int) (L : Nat → List Int) : Prop where
  inv : PostInv P μ q T
  len : ∀ k, (A k).length = (L k).length
  chain : ∀ k i t, (L k)[i]? = some t → ∃ n : Nat, t = (n : Int) ∧ n ≤ P.b 3 + 256 * P.n 3 ∧ Chain P μ (Used P q T) n ((A k).take (i + 1)).reverse
  last : ∀ k, (L k).getLast?.getD 0 = ((tailOf P (T k) : Nat) : Int)
  range : ∀ k, ∀ x ∈ A k, U32 x

def updL (A : Nat → List Int) (j : Nat) (v : Int) : Nat → List Int := fun k => if k = j then A k ++ [v] else A k
theorem updL_same (A : Nat → List Int) (j : Nat) (v : Int) : updL A j v j = A j ++ [v] := if_pos rfl
theorem updL_ne (A : Nat → List Int) {j k : Nat} (v : Int) (h : k ≠ j) : updL A j v k = A k := if_neg h

theorem BackInv.cur {P : Pools} {μ : List Int} {q : Nat → Nat} {T : Tails} {A L : Nat → List Int} (h : BackInv P μ q T A L) (k : Nat) : Chain P μ (Used P q T) (tailOf P (T k)) (A k).reverse := by
  have hl := h.last k
  have hlen := h.len k
  rcases Nat.eq_zero_or_pos (L k).length with h0 | h0
  · have e : L k = [] := List.length_eq_zero_iff.1 h0
    have ea : A k = [] := List.length_eq_zero_iff.1 (by omega)
    rw [e] at hl
    have : tailOf P (T k) = 0 := by simpa using hl.symm
    rw [this, ea]
    exact .nil
  · have hg : (L k)[(L k).length - 1]? = some (L k)[(L k).length - 1] := List.getElem?_eq_getElem (by omega)
    obtain ⟨n, hn, _, hc⟩ := h.chain k _ _ hg
    rw [List.getLast?_eq_getElem?, hg] at hl
    simp only [Option.getD_some] at hl
    have : n = tailOf P (T k) := by omega
    subst this
    rw [show (L k).length - 1 + 1 = (A k).length by omega, List.take_length] at hc
    exact hc

theorem tail_bound {P : Pools} (hP : P.ok) {μ : List Int} {q : Nat → Nat} {T : Tails} (h : PostInv P μ q T) (j : Nat) : tailOf P (T j) ≤ P.b 3 + 256 * P.n 3 := by
  cases hT : T j with
  | none => simp [tailOf]
  | some x =>
    obtain ⟨k, i, a⟩ := x
    obtain ⟨hk, hi, ha1, ha2⟩ := h.slab _ _ _ _ hT
    have := in_lt hP (show P.In k i (tailOf P (some (k, i, a))) a from ⟨hk, Nat.lt_of_lt_of_le hi (h.qn k hk), ha2, rfl⟩)
    have := hP.top
    omega

theorem BackInv.put {P : Pools} (hP : P.ok) {μ cs' : List Int} {q q' : Nat → Nat} {T T' : Tails} {A L : Nat → List Int} (h : BackInv P μ q T A L) {j : Nat} {v : Int} (hv : U32 v) (hd : PutDone P μ q T j v cs' q' T') :
    BackInv P cs' q' T' (updL A j v) (updL L j ((tailOf P (T' j) : Nat) : Int)) := by
  have hnew := hd.new _ (h.cur j)
  have hb := tail_bound hP hd.inv j
  refine ⟨hd.inv, fun k => ?_, fun k i t hi => ?_, fun k => ?_, fun k x hx => ?_⟩
  · unfold updL
    split
    · rename_i e; subst e; simp [h.len]
    · exact h.len k
  · by_cases hk : k = j
    · subst hk
      rw [updL_same] at hi ⊢
      rcases Nat.lt_or_ge i (L k).length with hlt | hge
      · rw [List.getElem?_append_left hlt] at hi
        obtain ⟨n, hn, hb', hc⟩ := h.chain k i t hi
        refine ⟨n, hn, hb', ?_⟩
        rw [List.take_append_of_le_length (by have := h.len k; omega)]
        exact hd.keep _ _ hc
      · rw [List.getElem?_append_right hge] at hi
        have hi0 : i - (L k).length = 0 := by
          have := (List.getElem?_eq_some_iff.1 hi).1
          simpa using this
        rw [hi0] at hi
        have ht : ((tailOf P (T' k) : Nat) : Int) = t := by simpa using hi
        refine ⟨tailOf P (T' k), ht.symm, hb, ?_⟩
        rw [List.take_of_length_le (by have := h.len k; simp; omega)]
        simpa using hnew
    · rw [updL_ne _ _ hk] at hi ⊢
      obtain ⟨n, hn, hb', hc⟩ := h.chain k i t hi
      exact ⟨n, hn, hb', hd.keep _ _ hc⟩
  · by_cases hk : k = j
    · subst hk; rw [updL_same]; simp
    · rw [updL_ne _ _ hk, hd.other k hk]; exact h.last k
  · by_cases hk : k = j
    · subst hk
      rw [updL_same] at hx
      rcases List.mem_append.1 hx with h1 | h1
      · exact h.range k x h1
      · rw [List.mem_singleton.1 h1]; exact hv
    · rw [updL_ne _ _ hk] at hx; exact h.range k x hx

theorem BackInv.start {P : Pools} {μ : List Int} (h : PostInv P μ (fun _ => 0) (fun _ => none)) : BackInv P μ (fun _ => 0) (fun _ => none) (fun _ => []) (fun _ => []) :=
  ⟨h, fun _ => rfl, fun k i t hi => by simp at hi, fun _ => rfl, fun _ x hx => by cases hx⟩

/-- what a walk from a tail that was reads -/
theorem back_get {A : List Int} {i j : Nat} (hi : i < A.length) (hj : j ≤ i) : ((A.take (i + 1)).reverse)[j]? = A[i - j]? := by
  rw [List.getElem?_reverse (by simp; omega)]
  rw [List.length_take, Nat.min_eq_left (by omega), List.getElem?_take, if_pos (by omega)]
  congr 1

structure Fam (w : World) (E : TypeId) (kd : IntKind) (B : Nat) (g : Nat → Value) (A : Nat → List Int) : Prop where
  own : ∀ k, k < 8 → w.ownsRow B E 1 (g k) (A k).length ((A k).map (Value.int kd))
  apart : ∀ k k' b, k < 8 → k' < 8 → k ≠ k' → (g k).ownBlock = some b → (g k').ownBlock ≠ some b
def g8 (g : Nat → Value) : List Value := [g 0, g 1, g 2, g 3, g 4, g 5, g 6, g 7]
def updG (g : Nat → Value) (j : Nat) (v : Value) : Nat → Value := fun k => if k = j then v else g k
theorem j_cases {j : Nat} (h : j < 8) : j = 0 ∨ j = 1 ∨ j = 2 ∨ j = 3 ∨ j = 4 ∨ j = 5 ∨ j = 6 ∨ j = 7 := by omega
theorem g8_get (g : Nat → Value) {j : Nat} (h : j < 8) : (g8 g)[j]? = some (g j) := by
  rcases j_cases h with rfl | rfl | rfl | rfl | rfl | rfl | rfl | rfl <;> rfl
theorem g8_set (g : Nat → Value) (v : Value) {j : Nat} (h : j < 8) : (g8 g).set j v = g8 (updG g j v) := by
  rcases j_cases h with rfl | rfl | rfl | rfl | rfl | rfl | rfl | rfl <;> rfl
theorem own_lt {w : World} {B : Nat} {E n sz : Nat} {v : Value} {xs : List Value} (h : w.ownsRow B E sz v n xs) {b : Nat} (hb : v.ownBlock = some b) : B ≤ b ∧ b < w.heap.size := by
  rcases h.2 with ⟨h1, _⟩ | ⟨g, cap, cur, h1, h2, h3, _⟩
  · rw [h1] at hb; cases hb
  · rw [h1] at hb
    have : g = b := by simpa [Value.ownBlock] using hb
    subst this
    exact ⟨h2, (Array.getElem?_eq_some_iff.1 h3).1⟩
theorem own_move {w w' : World} {B : Nat} {E n sz : Nat} {v : Value} {xs : List Value} (h : w.ownsRow B E sz v n xs) (hk : ∀ b, v.ownBlock = some b → w'.heap[b]? = w.heap[b]?) : w'.ownsRow B E sz v n xs := by
  refine ⟨h.1, ?_⟩
  rcases h.2 with h1 | ⟨g, cap, cur, h1, h2, h3, h4⟩
  · exact Or.inl h1
  · exact Or.inr ⟨g, cap, cur, h1, h2, by rw [hk g (by rw [h1]; rfl)]; exact h3, h4⟩
theorem own_form {w : World} {B : Nat} {E n sz : Nat} {v : Value} {xs : List Value} (h : w.ownsRow B E sz v n xs) : ∃ A cp, v = .slice A n cp := by
  rcases h.2 with ⟨h1, h2⟩ | ⟨b, cap, _, h1, _⟩
  · exact ⟨_, _, by rw [h1, h2]⟩
  · exact ⟨_, _, h1⟩
theorem own_slAt {w : World} {B : Nat} {E n : Nat} {v : Value} {xs : List Value} (h : w.ownsRow B E 1 v n xs) : SlAt w (fun b => B ≤ b ∧ b < w.heap.size) 1 v n xs := by
  have hl := h.1
  rcases h.2 with ⟨h1, h2⟩ | ⟨b, cap, cur, h1, h0, h3, h4, h5, h6, h7⟩
  · exact ⟨none, 0, by rw [h1, h2], by omega, Nat.zero_le _, hl, fun hn => by omega⟩
  · refine ⟨some ⟨b, 0, none⟩, cap, h1, h4, h5, hl, fun hn => ⟨b, 0, rfl, own_lt h (by rw [h1]; rfl), fun j u hu => ?_⟩⟩
    have := h.cells (g := b) (by rw [h1]; rfl) j u hu
    have ea : (⟨b, 0, none⟩ : Addr).add j = ⟨b, j, none⟩ := by unfold Addr.add; split <;> simp_all
    rw [Nat.zero_add, ← ea]; exact this

section
variable {w w' : World} {E : TypeId} {kd : IntKind} {B : Nat} {g : Nat → Value} {A : Nat → List Int}
theorem Fam.keep (h : Fam w E kd B g A) {K : Nat → Prop} (k : Keeps K w w') (hK : ∀ b, B ≤ b → b < w.heap.size → K b) : Fam w' E kd B g A :=
  ⟨fun i hi => own_move (h.own i hi) fun b hb => k.block b (hK b (own_lt (h.own i hi) hb).1 (own_lt (h.own i hi) hb).2), h.apart⟩
theorem Fam.grown (h : Fam w E kd B g A) {row : Option Nat} (hg : w.grownBy w' row) (hr : ∀ k b, k < 8 → (g k).ownBlock = some b → some b ≠ row) : Fam w' E kd B g A :=
  ⟨fun i hi => own_move (h.own i hi) fun b hb => hg.block b (own_lt (h.own i hi) hb).2 (hr i b hi hb), h.apart⟩
theorem Fam.append (h : Fam w E kd B g A) {j : Nat} (hj : j < 8) (hg : w.grownBy w' (g j).ownBlock) {v' : Value} {x : Int} (hv : w'.ownsRow B E 1 v' ((A j).length + 1) ((A j).map (Value.int kd) ++ [Value.int kd x]))
    (hf : ∀ b, v'.ownBlock = some b → (g j).ownBlock = some b ∨ w.heap.size ≤ b) : Fam w' E kd B (updG g j v') (updL A j x) := by
  refine ⟨fun k hk => ?_, fun k k' b hk hk' hne hb hb' => ?_⟩
  · unfold updG updL
    by_cases e : k = j
    · rw [if_pos e, if_pos e, List.length_append, List.map_append, e]
      exact hv
    · rw [if_neg e, if_neg e]
      exact own_move (h.own k hk) fun b hb => hg.block b (own_lt (h.own k hk) hb).2 (fun e' => h.apart k j b hk hj e hb e'.symm)
  · unfold updG at hb hb'
    by_cases e : k = j
    · rw [if_pos e] at hb
      rw [if_neg (by omega)] at hb'
      rcases hf b hb with h1 | h1
      · exact h.apart j k' b hj hk' (by omega) h1 hb'
      · have := (own_lt (h.own k' hk') hb').2; omega
    · rw [if_neg e] at hb
      by_cases e' : k' = j
      · rw [if_pos e'] at hb'
        rcases hf b hb' with h1 | h1
        · exact h.apart j k b hj hk (by omega) h1 hb
        · have := (own_lt (h.own k hk) hb).2; omega
      · rw [if_neg e'] at hb'
        exact h.apart k k' b hk hk' hne hb hb'
end
theorem Fam.start (w : World) (E : TypeId) (kd : IntKind) (B : Nat) : Fam w E kd B (fun _ => .slice none 0 0) (fun _ => []) :=
  ⟨fun _ _ => ⟨rfl, Or.inl ⟨rfl, rfl⟩⟩, fun _ _ b _ _ _ hb => by cases hb⟩

/-- two families apart -/
def FApart (g h : Nat → Value) : Prop := ∀ k k' b, k < 8 → k' < 8 → (g k).ownBlock = some b → (h k').ownBlock ≠ some b
theorem FApart.left {w : World} {E : TypeId} {kd : IntKind} {B : Nat} {g h : Nat → Value} {A : Nat → List Int} (hF : Fam w E kd B h A) (hA : FApart g h) {j : Nat} (hj : j < 8) {v' : Value} (hf : ∀ b, v'.ownBlock = some b → (g j).ownBlock = some b ∨ w.heap.size ≤ b) : FApart (updG g j v') h := by
  intro k k' b hk hk' hb hb'
  unfold updG at hb
  by_cases e : k = j
  · rw [if_pos e] at hb
    rcases hf b hb with h1 | h1
    · exact hA j k' b hj hk' h1 hb'
    · have := (own_lt (hF.own k' hk') hb').2; omega
  · rw [if_neg e] at hb
    exact hA k k' b hk hk' hb hb'
theorem FApart.right {w : World} {E : TypeId} {kd : IntKind} {B : Nat} {g h : Nat → Value} {A : Nat → List Int} (hF : Fam w E kd B g A) (hA : FApart g h) {j : Nat} (hj : j < 8) {v' : Value} (hf : ∀ b, v'.ownBlock = some b → (h j).ownBlock = some b ∨ w.heap.size ≤ b) : FApart g (updG h j v') := by
  intro k k' b hk hk' hb hb'
  unfold updG at hb'
  by_cases e : k' = j
  · rw [if_pos e] at hb'
    rcases hf b hb' with h1 | h1
    · exact hA k j b hk hj hb h1
    · have := (own_lt (hF.own k hk) hb).2; omega
  · rw [if_neg e] at hb'
    exact hA k k' b hk hk' hb hb'
end Go.Proofs.YtbmgmjfpoepgpaaDoor
