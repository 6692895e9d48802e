/- The tables of layer 5 out of a row's condition: the row's own list. -/
import Derived.Test.YtbepgbkbpkaodaaDoorFoldT
import Derived.Test.YtbepgbkbpkaodaaDoorRows
namespace Go.Proofs.YtbepgbkbpkaodaaDoor
open Go.RowKit

theorem laid_mem {P : Program} {W : World} {n : String} {d : DataW Unit} : ∀ {l : List (String × DataW Unit)} {ps : List MemPlace}, DataW.LaidVars P W l ps → (n, d) ∈ l →
    ∃ g t cs fuel p, P.globalNamed n = some g ∧ (P.globals[g]?).map (·.type) = some t ∧ W.var? P n = some cs ∧ DataW.trod (fun _ => ()) P W 0 (fun _ => true) false fuel t cs.toList = some (d, p)
  | [], _, _, hm => by cases hm
  | (n', d') :: r, ps, h, hm => by
    obtain ⟨g, t, cs, fuel, p, q, h1, h2, h3, h4, h5, _⟩ := h
    rcases List.mem_cons.1 hm with e | hm
    · injection e with e1 e2
      subst e1 e2
      exact ⟨g, t, cs, fuel, p, h1, h2, h3, h4⟩
    · exact laid_mem h5 hm
def spanD (a : Int × Int) : DataW Unit := .agg [.lit (.int .i32 a.1), .lit (.int .i32 a.2)]
def moveD (a : Int × Int × Int × Int) : DataW Unit := .agg [.agg [.lit (.int .i32 a.1), .lit (.int .i32 a.2.1)], .lit (.int .i64 a.2.2.1), .lit (.int .i32 a.2.2.2)]
set_option maxRecDepth 100000 in
theorem foldTab_of {W : World} {l : List (String × DataW Unit)} (h : laidMet Tryd.prog l W) (m1 : ("plover/fold.letters", Rows.laid_plover_fold_letters) ∈ l) (m2 : ("plover/fold.high", Rows.laid_plover_fold_high) ∈ l) (m3 : ("plover/fold.moves", Rows.laid_plover_fold_moves) ∈ l) : FoldTab W := by
  obtain ⟨ps, hv, _⟩ := h
  obtain ⟨g1, t1, cs1, fu1, p1, a1, b1, c1, d1⟩ := laid_mem hv m1
  obtain ⟨g2, t2, cs2, fu2, p2, a2, b2, c2, d2⟩ := laid_mem hv m2
  obtain ⟨g3, t3, cs3, fu3, p3, a3, b3, c3, d3⟩ := laid_mem hv m3
  obtain rfl : 1 = g1 := Option.some.inj ((show Tryd.prog.globalNamed "plover/fold.letters" = some 1 by kernel_rfl).symm.trans a1)
  obtain rfl : 0 = g2 := Option.some.inj ((show Tryd.prog.globalNamed "plover/fold.high" = some 0 by kernel_rfl).symm.trans a2)
  obtain rfl : 2 = g3 := Option.some.inj ((show Tryd.prog.globalNamed "plover/fold.moves" = some 2 by kernel_rfl).symm.trans a3)
  obtain rfl : 93 = t1 := Option.some.inj ((show (Tryd.prog.globals[1]?).map (·.type) = some 93 by kernel_rfl).symm.trans b1)
  obtain rfl : 92 = t2 := Option.some.inj ((show (Tryd.prog.globals[0]?).map (·.type) = some 92 by kernel_rfl).symm.trans b2)
  obtain rfl : 111 = t3 := Option.some.inj ((show (Tryd.prog.globals[2]?).map (·.type) = some 111 by kernel_rfl).symm.trans b3)
  have e1 : cs1.toList = spanC lettersP := cells_of_arr (f := spanD) (g := fun p : Int × Int => [.int .i32 p.1, .int .i32 p.2]) (xs := lettersP) Tryd.underlying93 (m := 2) (by kernel_rfl) (by kernel_rfl) (by decide) (fun _ _ x _ hx => span_cells (a := x) hx) (fun _ => rfl) d1
  have e2 : cs2.toList = spanC highP := cells_of_arr (f := spanD) (g := fun p : Int × Int => [.int .i32 p.1, .int .i32 p.2]) (xs := highP) Tryd.underlying92 (m := 2) (by kernel_rfl) (by kernel_rfl) (by decide) (fun _ _ x _ hx => span_cells (a := x) hx) (fun _ => rfl) d2
  have e3 : cs3.toList = moveC movesP := cells_of_arr (f := moveD) (g := fun p : Int × Int × Int × Int => [.int .i32 p.1, .int .i32 p.2.1, .int .i64 p.2.2.1, .int .i32 p.2.2.2]) (xs := movesP) Tryd.underlying111 (m := 4) (by kernel_rfl) (by kernel_rfl) (by decide) (fun _ _ x _ hx => move_cells (a := x) hx) (fun _ => rfl) d3
  obtain ⟨r1, s1⟩ := var_rangeAt a1 c1
  obtain ⟨r2, s2⟩ := var_rangeAt a2 c2
  obtain ⟨r3, s3⟩ := var_rangeAt a3 c3
  rw [e1] at r1
  rw [e2] at r2
  rw [e3] at r3
  have n1 : 0 < cs1.size := by rw [← Array.length_toList, e1]; decide
  have n2 : 0 < cs2.size := by rw [← Array.length_toList, e2]; decide
  have n3 : 0 < cs3.size := by rw [← Array.length_toList, e3]; decide
  exact ⟨r2, r1, r3, s2 n2, s1 n1, s3 n3⟩
def layC (xs : Array Value) : Obj → Obj
  | .cells _ t frozen => .cells xs t frozen
  | o => o
/-- a world for the witness: the tables lie there -/
noncomputable def laidWorld (os : Os) : World :=
  { World.holding Tryd.prog os ⟨#[], #[], []⟩ with heap := (((World.holding Tryd.prog os ⟨#[], #[], []⟩).heap.modify 0 (layC (spanC highP).toArray)).modify 1 (layC (spanC lettersP).toArray)).modify 2 (layC (moveC movesP).toArray) }
end Go.Proofs.YtbepgbkbpkaodaaDoor
