/- A slice of slices of instructions that came in. -/
import Derived.Test.YtjnaibmnpajfdaaOpen03
namespace Go.Proofs.Ytjnaibmnpajfdaa
open Go.RowKit Go.ChangeShapes Go.WideShapes Go.Deep

set_option maxRecDepth 100000
section
variable {H : Type} {enc : TypeId × Value → H} {w : World}
theorem open_slT {α : Type} (f : α → List Value) (size : Nat) (hs : 0 < size) (hf : ∀ x, (f x).length = size) (Q : α → Prop) {t e : TypeId} {cs0 : List Value} {x0 : DataW H × List MemPlace} {fuel : Nat}
    (ht : Try.prog.underlying t = some (.slice e)) (hC : Try.prog.cellsOf e = size)
    (h : DataW.trod enc Try.prog w 0 (fun _ => true) true fuel t cs0 = some x0)
    (hrd : ∀ (n : Nat) (cs : List Value) (x : DataW H × List MemPlace), cs.length = size → DataW.trod enc Try.prog w 0 (fun _ => true) true n e cs = some x → ∃ a : α, f a = cs ∧ Q a) :
    ∃ (A : Option Addr) (cap : Nat) (l : List α), cs0 = [.slice A l.length cap] ∧ (∀ a ∈ l, Q a) ∧ SlAt w (· < w.heap.size) size (.slice A l.length cap) l.length (l.flatMap f) := by
  rcases open_slice ht h with ⟨h0, _⟩ | ⟨a, len, cap, m, n, D, Pl, hcs, hb, hl, hm, hmm, hx, hi⟩
  · exact ⟨none, 0, [], h0, fun a ha => (by cases ha), none, 0, rfl, Nat.le_refl _, Nat.zero_le _, by simp, fun hn => absurd hn (by simp)⟩
  · simp only [if_true] at hmm
    subst hmm
    obtain ⟨l, hl1, hl2⟩ := list_of (Q := fun i x => Q x ∧ ∀ j u, (f x)[j]? = some u → w.cell? ((a.add (i * size)).add j) = some u) len (fun i hi' => by
      obtain ⟨cs', hc, ht'⟩ := hi i (by omega)
      rw [hC] at hc
      obtain ⟨_, hcl, hat⟩ := World.cells?_some hc
      obtain ⟨x, hx1, hx2⟩ := hrd n cs' _ hcl ht'
      refine ⟨x, hx2, fun j u hj => ?_⟩
      rw [hx1] at hj
      have hjl : j < size := by rw [← hcl]; exact (List.getElem?_eq_some_iff.1 hj).1
      rw [hat j hjl, hj])
    refine ⟨some a, m, l, by rw [hcs, hl1], fun x hx' => ?_, some a, m, by rw [hl1], by rw [hl1]; exact hl, hm, flat_len f size hf l, fun hn => ?_⟩
    · obtain ⟨i, hi', rfl⟩ := List.getElem_of_mem hx'
      exact (hl2 i _ (List.getElem?_eq_getElem hi')).1
    · obtain ⟨x0, hx0⟩ : ∃ x, l[0]? = some x := ⟨_, List.getElem?_eq_getElem hn⟩
      have hsp0 := (hl2 0 x0 hx0).2 0 ((f x0)[0]'(by rw [hf]; exact hs)) (List.getElem?_eq_getElem _)
      have hadd : ∀ (a : Addr) (i j : Nat), (a.add i).add j = a.add (i + j) := fun a i j => by
        unfold Addr.add
        by_cases hi : i = 0 <;> by_cases hj : j = 0 <;> simp [hi, hj, Nat.add_assoc]
      rw [hadd] at hsp0
      have hspot := World.cell?_spot hsp0
      obtain ⟨b, off, spot⟩ := a
      have hspot : spot = none := by simpa [Addr.add] using hspot
      subst hspot
      refine ⟨b, off, rfl, ?_, fun j u hj => ?_⟩
      · have := World.block_lt_of_cell? _ _ hsp0
        simpa [Addr.add] using this
      · obtain ⟨x, hx1, hx2⟩ := flat_get f size hs hf l j u hj
        have := (hl2 _ x hx1).2 _ u hx2
        rw [hadd, Nat.div_add_mod' j size] at this
        rw [← this]
        simp [Addr.add]
        try (by_cases hj0 : j = 0 <;> simp [hj0])

/-- a program that came in: its slice, its instructions -/
structure PIn where
  A : Option Addr
  cap : Nat
  l : List InsM
def PIn.v (p : PIn) : Value := .slice p.A p.l.length p.cap
def PIn.ok (w : World) (p : PIn) : Prop := (∀ a ∈ p.l, a.wf) ∧ SlAt w (· < w.heap.size) 3 p.v p.l.length (p.l.flatMap InsM.cells)
theorem Try.cellsSIns : Try.prog.cellsOf 22 = 1 := by kernel_rfl
theorem open_insSS {v : Value} {d : DataW H} {p : List MemPlace} {r : Reach} {b0 : Nat} (hv : Value.okWide Try.prog w r b0 43 v)
    (h : DataW.Trod enc Try.prog w 0 (fun _ => true) true 43 v d p) :
    ∃ (A : Option Addr) (cap : Nat) (l : List PIn), v = .slice A l.length cap ∧ (∀ a ∈ l, a.ok w) ∧ SlAt w (· < w.heap.size) 1 v l.length (l.map PIn.v) := by
  obtain ⟨A, cap, l, h1, h2, h3⟩ := open_sl (fun x : PIn => [x.v]) 1 (by decide) (fun _ => rfl) (fun x => x.ok w) Try.underlying43 Try.cellsSIns hv h (fun n cs x hl hx => by
    obtain ⟨A', cap', l', e1, e2, e3⟩ := open_slT InsM.cells 3 (by decide) (fun _ => rfl) InsM.wf Try.underlying22 Try.cellsIns hx read_ins
    exact ⟨⟨A', cap', l'⟩, e1.symm, e2, e3⟩)
  have e : ∀ l : List PIn, l.flatMap (fun x : PIn => [x.v]) = l.map PIn.v := by
    intro l; induction l with
    | nil => rfl
    | cons x l ih => rw [List.flatMap_cons, ih]; rfl
  rw [e] at h3
  exact ⟨A, cap, l, h1, h2, h3⟩
end
end Go.Proofs.Ytjnaibmnpajfdaa
