/- Slices that read as lists. -/
import Derived.Test.YtbepgbkbpkaodaaDoorBase
namespace Go.Proofs.YtbepgbkbpkaodaaDoor
open Go.RowKit

theorem Keeps.all {w w' : World} (h : Keeps (· < w.heap.size) w w') {K : Nat → Prop} (hK : ∀ b, K b → b < w.heap.size) : Keeps K w w' :=
  h.mono hK

/-- a slice value that reads as a list of cells; where it lies is under guard -/
def SlAt (w : World) (K : Nat → Prop) (size : Nat) (v : Value) (n : Nat) (xs : List Value) : Prop :=
  ∃ A cap, v = .slice A n cap ∧ n ≤ cap ∧ cap ≤ maxLen ∧ xs.length = n * size ∧
    (0 < n → ∃ b off, A = some ⟨b, off, none⟩ ∧ K b ∧ ∀ j u, xs[j]? = some u → w.cell? ⟨b, off + j, none⟩ = some u)

theorem SlAt.keep {w w' : World} {K L : Nat → Prop} {size n : Nat} {v : Value} {xs : List Value} (h : SlAt w K size v n xs) (k : Keeps L w w') (hL : ∀ b, K b → L b) : SlAt w' K size v n xs := by
  obtain ⟨A, cap, h1, h2, h3, h4, h5⟩ := h
  refine ⟨A, cap, h1, h2, h3, h4, fun hn => ?_⟩
  obtain ⟨b, off, e, hb, hc⟩ := h5 hn
  exact ⟨b, off, e, hb, fun j u hu => (World.cell?_of_block (k.block b (hL b hb))).trans (hc j u hu)⟩
theorem SlAt.mono {w : World} {K L : Nat → Prop} {size n : Nat} {v : Value} {xs : List Value} (h : SlAt w K size v n xs) (hL : ∀ b, K b → L b) : SlAt w L size v n xs := by
  obtain ⟨A, cap, h1, h2, h3, h4, h5⟩ := h
  refine ⟨A, cap, h1, h2, h3, h4, fun hn => ?_⟩
  obtain ⟨b, off, e, hb, hc⟩ := h5 hn
  exact ⟨b, off, e, hL b hb, hc⟩

theorem SlAt.get {w : World} {K : Nat → Prop} {v : Value} {xs : List Int} {k : IntKind} (h : SlAt w K 1 v xs.length (xs.map (Value.int k))) (i : Nat) (x : Int) (hi : xs[i]? = some x) :
    ∃ b off cap, v = .slice (some ⟨b, off, none⟩) xs.length cap ∧ K b ∧ w.cell? ⟨b, off + i, none⟩ = some (.int k x) := by
  obtain ⟨A, cap, h1, h2, h3, h4, h5⟩ := h
  have hlt := (List.getElem?_eq_some_iff.1 hi).1
  obtain ⟨b, off, e, hb, hc⟩ := h5 (by omega)
  subst e
  exact ⟨b, off, cap, h1, hb, hc i _ (by rw [List.getElem?_map, hi]; rfl)⟩

theorem SlAt.of_blk {w : World} {K : Nat → Prop} {b : Nat} {xs : List Value} (h : Blk w b xs) (hK : K b) (hn : xs.length ≤ maxLen) : SlAt w K 1 (.slice (some ⟨b, 0, none⟩) xs.length xs.length) xs.length xs :=
  ⟨_, _, rfl, Nat.le_refl _, hn, (Nat.mul_one _).symm, fun _ => ⟨b, 0, rfl, hK, fun j u hu => by rw [Nat.zero_add, h.cell]; exact hu⟩⟩

theorem SlAt.form {w : World} {K : Nat → Prop} {size n : Nat} {v : Value} {xs : List Value} (h : SlAt w K size v n xs) : ∃ A cap, v = .slice A n cap ∧ n ≤ cap ∧ cap ≤ maxLen := by
  obtain ⟨A, cap, h1, h2, h3, _⟩ := h
  exact ⟨A, cap, h1, h2, h3⟩
end Go.Proofs.YtbepgbkbpkaodaaDoor
