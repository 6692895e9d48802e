/- A region that draws its order, whose operations and callees keep what lies below a mark: one walk. -/
import Derived.Test.YtbepgbkbpkaodaaDoorTokB
import Derived.BigQuiet
namespace Go.Proofs.YtbepgbkbpkaodaaDoor
open Go.RowKit

/-- a world that keeps the blocks below the mark -/
structure KP (W : World) (N : Nat) where
  w : World
  k : Keeps (· < N) W w
instance KP.ne (W : World) (N : Nat) : Nonempty (KP W N) := ⟨⟨W, Keeps.refl _ _⟩⟩
theorem wp_region_class {P : Program} {id : Nat} {Q : Exit → Act → World → Prop} {a : Act} {w : World} {l : List Oper} (N : Nat) (hm : P.follows .mixedOrders = true) (hB : Region.lexB .any l.toArray = true)
    (h : wpQuiet P l.toArray (fun w' => ∃ p : KP w N, w' = p.w) (fun a' => ∀ w', (∃ p : KP w N, w' = p.w) → Q .normal a' w') l a) : (Code.region id l.toArray true).wp P Q a w :=
  wp_region_quiet (C := fun w' => ∃ p : KP w N, w' = p.w) hm hB ⟨⟨w.drew, (Keeps.refl _ _).drew⟩, rfl⟩ (by simpa using h)
theorem KP.calls {P : Program} {f : FuncId} {args : Array Value} {W : World} {N : Nat} (p : KP W N) {v : Value} (hN : N ≤ W.heap.size) (h : Calls P f args p.w fun e w' => e = .returned v ∧ Keeps (· < p.w.heap.size) p.w w') : Calls P f args p.w fun e w' => e = .returned v ∧ ∃ q : KP W N, w' = q.w :=
  h.mono fun _ w' ⟨he, hk⟩ => ⟨he, ⟨w', p.k.trans (hk.mono fun b hb => by have := p.k.size; omega)⟩, rfl⟩
theorem KP.cell {W : World} {N b o : Nat} {v : Value} (hb : b < N) (h : W.cell? ⟨b, o, none⟩ = some v) (p : KP W N) : p.w.cell? ⟨b, o, none⟩ = some v := (World.cell?_of_block (p.k.block b hb)).trans h
theorem KP.draw {W : World} {N : Nat} (p : KP W N) (n : Nat) : Keeps (· < p.w.heap.size) p.w (p.w.drewN n) := (Keeps.refl _ _).drewN n
end Go.Proofs.YtbepgbkbpkaodaaDoor
