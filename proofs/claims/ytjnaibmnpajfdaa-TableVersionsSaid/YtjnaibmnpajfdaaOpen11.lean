/- Layer 11's statements: a slice of acts that came in. -/
import Derived.Test.YtjnaibmnpajfdaaOpenB
import Derived.Test.YtjnaibmnpajfdaaVersD
namespace Go.Proofs.Ytjnaibmnpajfdaa
open Go.RowKit Go.ChangeShapes Go.WideShapes Go.Deep

set_option maxRecDepth 100000
theorem Try.cellsAct : Try.prog.cellsOf 65 = 4 := by kernel_rfl
section
variable {H : Type} {enc : TypeId × Value → H} {w : World}
theorem read_act (n : Nat) (cs : List Value) (x : DataW H × List MemPlace) (hl : cs.length = 4)
    (h : DataW.trod enc Try.prog w 0 (fun _ => true) true n 65 cs = some x) : ∃ a : ActM, a.cells = cs ∧ a.wf := by
  have hf := read_fields Try.underlying65 (by kernel_rfl) h hl
  obtain ⟨c0, y0, n0, g0, f0⟩ := hf 0 _ rfl
  obtain ⟨c1, y1, n1, g1, f1⟩ := hf 1 _ rfl
  obtain ⟨c2, y2, n2, g2, f2⟩ := hf 2 _ rfl
  obtain ⟨c3, y3, n3, g3, f3⟩ := hf 3 _ rfl
  obtain ⟨a0, e0, _⟩ := DataW.trod_bool Try.underlying4 f0
  obtain ⟨a1, e1, _, w1⟩ := DataW.trod_int Try.underlying5 f1
  obtain ⟨a2, e2, _, w2⟩ := DataW.trod_int Try.underlying36 f2
  obtain ⟨a3, e3, _, w3⟩ := DataW.trod_int Try.underlying36 f3
  match cs, hl with
  | [b0, b1, b2, b3], _ =>
    simp only [List.getElem?_cons_zero, List.getElem?_cons_succ, Option.some.injEq] at g0 g1 g2 g3
    simp only [List.cons.injEq, and_true] at e0 e1 e2 e3
    subst g0 g1 g2 g3 e0 e1 e2 e3
    exact ⟨⟨a0, a1, a2, a3⟩, rfl, bounds_u8 w1, bounds_u32 w2, bounds_u32 w3⟩

theorem open_actS {v : Value} {d : DataW H} {p : List MemPlace} {r : Reach} {b0 : Nat} (hv : Value.okWide Try.prog w r b0 62 v)
    (h : DataW.Trod enc Try.prog w 0 (fun _ => true) true 62 v d p) :
    ∃ (A : Option Addr) (cap : Nat) (l : List ActM), v = .slice A l.length cap ∧ (∀ a ∈ l, a.wf) ∧ SlAt w (· < w.heap.size) 4 v l.length (l.flatMap ActM.cells) :=
  open_sl ActM.cells 4 (by decide) (fun _ => rfl) ActM.wf Try.underlying62 Try.cellsAct hv h read_act
end
end Go.Proofs.Ytjnaibmnpajfdaa
