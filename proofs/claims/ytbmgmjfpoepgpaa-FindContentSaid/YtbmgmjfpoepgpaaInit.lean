/- Beginnings: a run over a memory; slices of literals; a memory that is turned from outside. -/
import Derived.Test.YtbmgmjfpoepgpaaRun
import Derived.Test.YtbmgmjfpoepgpaaPlainA
namespace Go.Proofs.Ytbmgmjfpoepgpaa
open Go.RowKit

theorem RM.init {w1 w2 : World} {K : Nat → Prop} {m c : Nat} {μ : MemS} {σ : RunS} (hm : MemAt w1 m c μ) (hr : RunAt w2 w1.heap.size m (.slice none 0 0) σ)
    (hk : Keeps (· < w1.heap.size) w1 w2) (hK : ∀ b, K b → b < w1.heap.size ∧ b ≠ m ∧ b ≠ c) : RM w2 K w1.heap.size m c ⟨σ, μ⟩ := by
  have h1 := hm.obj.lt
  have h2 := hm.cells.lt
  exact ⟨⟨_, hr, fun k hk => by cases hk⟩, hm.keep hk h1 h2, by omega, by omega, fun h => by have := (hK _ h).1; omega, fun h => (hK _ h).2.1 rfl, fun h => (hK _ h).2.2 rfl,
    fun b hb => by have := (hK b hb).1; have := hk.size; omega⟩

/-- the slice of a literal: a new block -/
theorem SlAt.new (w : World) (l : List Value) (T : TypeId) (size n : Nat) (h : l.length = n * size) (hn : n ≤ maxLen) (K : Nat → Prop) (hK : K w.heap.size) :
    SlAt (w.alloc (.cells l.toArray T)) K size (.slice (some ⟨w.heap.size, 0, none⟩) n n) n l :=
  ⟨_, n, rfl, Nat.le_refl _, hn, h, fun _ => ⟨_, 0, rfl, hK, fun j u hu => by rw [Nat.zero_add, (Blk.new w l T).cell]; exact hu⟩⟩

def run0 : RunS := ⟨[], 0, false, false, false, false, 0⟩
theorem RM.store {w w' : World} {K : Nat → Prop} {r m c : Nat} {s : St} {μ : MemS} (h : RM w K r m c s) (hm : MemAt w' m c μ) (hk : Keeps (fun b => b ≠ m ∧ b ≠ c) w w') : RM w' K r m c ⟨s.r, μ⟩ := by
  obtain ⟨g, h1, h2⟩ := h.run
  exact ⟨⟨g, h1.keep hk ⟨h.rm, h.rc⟩ (fun b hb => ⟨(h2 b hb).2.1, (h2 b hb).2.2.1⟩), h2⟩, hm, h.rm, h.rc, h.kr, h.km, h.kc, fun b hb => by have := h.lt b hb; have := hk.size; omega⟩

theorem SlAt.take {w : World} {K : Nat → Prop} {size n cap : Nat} {A : Option Addr} {xs : List Value} (h : SlAt w K size (.slice A n cap) n xs) (k : Nat) (hk : k ≤ n) :
    SlAt w K size (.slice A k cap) k (xs.take (k * size)) := by
  obtain ⟨A', cap', h1, h2, h3, h4, h5⟩ := h
  injection h1 with e1 _ e3
  subst e1; subst e3
  refine ⟨A, cap, rfl, by omega, h3, ?_, fun hn => ?_⟩
  · rw [List.length_take, h4]; exact Nat.min_eq_left (Nat.mul_le_mul_right _ hk)
  · obtain ⟨b, off, e, hb, hc⟩ := h5 (by omega)
    refine ⟨b, off, e, hb, fun j u hu => hc j u ?_⟩
    rw [List.getElem?_take] at hu
    split at hu
    · exact hu
    · cases hu

end Go.Proofs.Ytbmgmjfpoepgpaa
