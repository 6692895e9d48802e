/- Layer 3's statements: a slice of instructions that came in; StepOne. -/
import Derived.Test.YtjnaibmnpajfdaaOpenB
import Derived.Test.YtjnaibmnpajfdaaStepOne
namespace Go.Proofs.Ytjnaibmnpajfdaa
open Go.RowKit Go.ChangeShapes Go.WideShapes Go.Deep

set_option maxRecDepth 100000
theorem Try.cellsI : Try.prog.cellsOf 3 = 1 := by kernel_rfl
theorem Try.cellsU : Try.prog.cellsOf 36 = 1 := by kernel_rfl
theorem Try.cellsIns : Try.prog.cellsOf 38 = 3 := by kernel_rfl
section
variable {H : Type} {enc : TypeId × Value → H} {w : World}
theorem read_ins (n : Nat) (cs : List Value) (x : DataW H × List MemPlace) (hl : cs.length = 3)
    (h : DataW.trod enc Try.prog w 0 (fun _ => true) true n 38 cs = some x) : ∃ a : InsM, a.cells = cs ∧ a.wf := by
  have hf := read_fields Try.underlying38 (by kernel_rfl) h hl
  obtain ⟨c0, y0, n0, g0, f0⟩ := hf 0 _ rfl
  obtain ⟨c1, y1, n1, g1, f1⟩ := hf 1 _ rfl
  obtain ⟨c2, y2, n2, g2, f2⟩ := hf 2 _ rfl
  obtain ⟨a0, e0, _, w0⟩ := DataW.trod_int Try.underlying3 f0
  obtain ⟨a1, e1, _, w1⟩ := DataW.trod_int Try.underlying3 f1
  obtain ⟨a2, e2, _, w2⟩ := DataW.trod_int Try.underlying36 f2
  match cs, hl with
  | [b0, b1, b2], _ =>
    simp only [List.getElem?_cons_zero, List.getElem?_cons_succ, Option.some.injEq] at g0 g1 g2
    simp only [List.cons.injEq, and_true] at e0 e1 e2
    subst g0 g1 g2 e0 e1 e2
    exact ⟨⟨a0, a1, a2⟩, rfl, bounds_i64 w0, bounds_i64 w1, bounds_u32 w2⟩

theorem open_insS {v : Value} {d : DataW H} {p : List MemPlace} {r : Reach} {b0 : Nat} (hv : Value.okWide Try.prog w r b0 22 v)
    (h : DataW.Trod enc Try.prog w 0 (fun _ => true) true 22 v d p) :
    ∃ (A : Option Addr) (cap : Nat) (l : List InsM), v = .slice A l.length cap ∧ (∀ a ∈ l, a.wf) ∧ SlAt w (· < w.heap.size) 3 v l.length (l.flatMap InsM.cells) :=
  open_sl InsM.cells 3 (by decide) (fun _ => rfl) InsM.wf Try.underlying22 Try.cellsIns hv h read_ins

end

end Go.Proofs.Ytjnaibmnpajfdaa
