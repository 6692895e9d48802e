/- What the last texts of all laws want. -/
import Derived.Test.YtbepgbkbpkaodaaDoorOpen
namespace Go.Proofs.YtbepgbkbpkaodaaDoor
open Go.RowKit Go.ChangeShapes Go.WideShapes Go.Deep

set_option maxRecDepth 100000
theorem Tryd.own : ownKnob Tryd.prog.godebug = none := by kernel_rfl
theorem Tryd.laidOut : laidOutB Tryd.prog = true := by kernel_rfl

section
variable {H : Type} {enc : TypeId × Value → H} {w : World}
theorem open_u8S {v : Value} {d : DataW H} {p : List MemPlace} {r : Reach} {b0 : Nat} (hv : Value.okWide Tryd.prog w r b0 67 v) (h : DataW.Trod enc Tryd.prog w 0 (fun _ => true) true 67 v d p) :
    ∃ (A : Option Addr) (cap : Nat) (l : List Int), v = .slice A l.length cap ∧ (∀ a ∈ l, (Lit.int .u8 a).wf = true) ∧ SlAt w (· < w.heap.size) 1 v l.length (l.map (Value.int .u8)) :=
  open_intS .u8 Tryd.underlying67 Tryd.underlying5 (by kernel_rfl) hv h
end

/-- an argument reads behind the call as it did -/
theorem arg_kept {H : Type} {enc : TypeId × Value → H} {t : TypeId} (hr : Tryd.prog.readableRec t = true) (hrow : t < Tryd.prog.types.size) {W W' : World} {v : Value} {d : DataW H} {ps : List MemPlace}
    (h : DataW.Trod enc Tryd.prog W 0 (fun _ => true) true t v d ps) (hb : Keeps (· < W.heap.size) W W') (hlt : ∀ x ∈ ps, x.block < W.heap.size) :
    DataW.Trod enc Tryd.prog W' 0 (fun b => decide (b < W.heap.size)) true t v d ps := Below.trod Tryd.laidOut hr hrow h hb.below hlt
end Go.Proofs.YtbepgbkbpkaodaaDoor
