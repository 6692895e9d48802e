/- What the last texts of all laws want. -/
import Derived.Test.YtbmgmjfpoepgpaaOpen
namespace Go.Proofs.Ytbmgmjfpoepgpaa
open Go.RowKit Go.ChangeShapes Go.WideShapes Go.Deep

set_option maxRecDepth 100000
theorem Try.own : ownKnob Try.prog.godebug = none := by kernel_rfl
theorem Try.laidOut : laidOutB Try.prog = true := by kernel_rfl

section
variable {H : Type} {enc : TypeId × Value → H} {w : World}
theorem open_u8S {v : Value} {d : DataW H} {p : List MemPlace} {r : Reach} {b0 : Nat} (hv : Value.okWide Try.prog w r b0 106 v) (h : DataW.Trod enc Try.prog w 0 (fun _ => true) true 106 v d p) :
    ∃ (A : Option Addr) (cap : Nat) (l : List Int), v = .slice A l.length cap ∧ (∀ a ∈ l, (Lit.int .u8 a).wf = true) ∧ SlAt w (· < w.heap.size) 1 v l.length (l.map (Value.int .u8)) :=
  open_intS .u8 Try.underlying106 Try.underlying5 (by kernel_rfl) hv h
theorem open_u32S {v : Value} {d : DataW H} {p : List MemPlace} {r : Reach} {b0 : Nat} (hv : Value.okWide Try.prog w r b0 32 v) (h : DataW.Trod enc Try.prog w 0 (fun _ => true) true 32 v d p) :
    ∃ (A : Option Addr) (cap : Nat) (l : List Int), v = .slice A l.length cap ∧ (∀ a ∈ l, (Lit.int .u32 a).wf = true) ∧ SlAt w (· < w.heap.size) 1 v l.length (l.map (Value.int .u32)) :=
  open_intS .u32 Try.underlying32 Try.underlying55 (by kernel_rfl) hv h
end

/-- an argument reads behind the call as it did -/
theorem arg_kept {H : Type} {enc : TypeId × Value → H} {t : TypeId} (hr : Try.prog.readableRec t = true) (hrow : t < Try.prog.types.size) {W W' : World} {v : Value} {d : DataW H} {ps : List MemPlace}
    (h : DataW.Trod enc Try.prog W 0 (fun _ => true) true t v d ps) (hb : Keeps (· < W.heap.size) W W') (hlt : ∀ x ∈ ps, x.block < W.heap.size) :
    DataW.Trod enc Try.prog W' 0 (fun b => decide (b < W.heap.size)) true t v d ps := Below.trod Try.laidOut hr hrow h hb.below hlt
end Go.Proofs.Ytbmgmjfpoepgpaa
