/- A configuration that came in; the table of the slabs' sizes that the row lists. -/
import Derived.Test.YtbmgmjfpoepgpaaDoorOpenB
import Derived.Test.YtbmgmjfpoepgpaaDoorLay
import Derived.Test.YtbmgmjfpoepgpaaDoorPoolC
import Derived.Lib.LaidTab
namespace Go.Proofs.YtbmgmjfpoepgpaaDoor
open Go.RowKit Go.ChangeShapes Go.WideShapes Go.Deep

set_option maxRecDepth 100000
theorem Tryd.cellsC : Tryd.prog.cellsOf 3 = 1 := by kernel_rfl
theorem Tryd.cellsA4 : Tryd.prog.cellsOf 22 = 4 := by kernel_rfl
theorem Tryd.cellsConf : Tryd.prog.cellsOf 25 = 10 := by kernel_rfl
theorem gTab : Tryd.prog.globalNamed "plover/pool.sizes" = some 0 := by kernel_rfl
theorem gTabType : (Tryd.prog.globals[0]?).map (·.type) = some 22 := by kernel_rfl
section
variable {H : Type} {enc : TypeId × Value → H} {w : World}
theorem open_conf {v : Value} {d : DataW H} {p : List MemPlace} {r : Reach} {b0 : Nat} (hv : Value.okWide Tryd.prog w r b0 25 v)
    (h : DataW.Trod enc Tryd.prog w 0 (fun _ => true) true 25 v d p) : ∃ c : ConfM, v = .agg c.list.toArray := by
  obtain ⟨cs, rfl, hsz⟩ := okWide_struct Tryd.underlying25 hv
  rw [Tryd.cellsConf] at hsz
  obtain ⟨fuel, h⟩ := h
  obtain ⟨xs, n, _, _, hl, hlen, hf⟩ := DataW.trod_struct Tryd.underlying25 h
  have f0 := hf 0 (Field.mk "Docs" 3 0 false "" "" 0) rfl
  have f1 := hf 1 (Field.mk "Terms" 3 1 false "" "" 8) rfl
  have f2 := hf 2 (Field.mk "Slabs" 22 2 false "" "" 16) rfl
  have f3 := hf 3 (Field.mk "Book" 3 6 false "" "" 48) rfl
  have f4 := hf 4 (Field.mk "Room" 3 7 false "" "" 56) rfl
  have hx : ∀ i, i < 7 → ∃ y, xs[i]? = some y := fun i hi => ⟨_, List.getElem?_eq_getElem (by rw [hlen]; exact hi)⟩
  obtain ⟨y0, e0⟩ := hx 0 (by decide)
  obtain ⟨y1, e1⟩ := hx 1 (by decide)
  obtain ⟨y2, e2⟩ := hx 2 (by decide)
  obtain ⟨y3, e3⟩ := hx 3 (by decide)
  obtain ⟨y4, e4⟩ := hx 4 (by decide)
  rw [e0] at f0
  rw [e1] at f1
  rw [e2] at f2
  rw [e3] at f3
  rw [e4] at f4
  have hcs : (Value.agg cs).cells.toList = cs.toList := rfl
  rw [hcs] at f0 f1 f2 f3 f4
  obtain ⟨l, hle⟩ : ∃ l, l = cs.toList := ⟨_, rfl⟩
  rw [← hle] at f0 f1 f2 f3 f4
  have hl10 : l.length = 10 := by rw [hle]; simpa using hsz
  obtain ⟨c0, c1, c2, c3, c4, c5, c6, c7, c8, c9, hll⟩ : ∃ c0 c1 c2 c3 c4 c5 c6 c7 c8 c9 : Value, l = [c0, c1, c2, c3, c4, c5, c6, c7, c8, c9] := by
    match l, hl10 with
    | [c0, c1, c2, c3, c4, c5, c6, c7, c8, c9], _ => exact ⟨c0, c1, c2, c3, c4, c5, c6, c7, c8, c9, rfl⟩
  subst hll
  simp only [Tryd.cellsC, Tryd.cellsA4, List.drop_zero, List.take_succ_cons, List.take_zero, List.drop_succ_cons] at f0 f1 f2 f3 f4
  obtain ⟨a0, g0, _, _⟩ := DataW.trod_int Tryd.underlying3 f0
  obtain ⟨a1, g1, _, _⟩ := DataW.trod_int Tryd.underlying3 f1
  obtain ⟨z0, z1, z2, z3, m, _, k0, k1, k2, k3⟩ := trod_array4 Tryd.underlying22 Tryd.cellsC f2
  obtain ⟨b0, h0, _, _⟩ := DataW.trod_int Tryd.underlying3 k0
  obtain ⟨b1, h1, _, _⟩ := DataW.trod_int Tryd.underlying3 k1
  obtain ⟨b2, h2, _, _⟩ := DataW.trod_int Tryd.underlying3 k2
  obtain ⟨b3, h3, _, _⟩ := DataW.trod_int Tryd.underlying3 k3
  obtain ⟨a3, g3, _, _⟩ := DataW.trod_int Tryd.underlying3 f3
  obtain ⟨a4, g4, _, _⟩ := DataW.trod_int Tryd.underlying3 f4
  simp only [List.cons.injEq, and_true] at g0 g1 g3 g4 h0 h1 h2 h3
  subst g0 g1 g3 g4 h0 h1 h2 h3
  refine ⟨⟨a0, a1, b0, b1, b2, b3, a3, a4, c8, c9⟩, ?_⟩
  congr 1
  apply Array.ext'
  rw [← hle]; rfl
end
/-- what the row's list gives -/
theorem tab_of_row {W : World} (h : laidMetH Tryd.prog Rows.postNeedsRow.laid W) : Tab W := by
  have ht : Lib.TabIs Tryd.prog W "plover/pool.sizes" .i64 [4, 16, 64, 256] := Lib.tabIs_of_head (rest := []) gTab gTabType Tryd.underlying22 Tryd.underlying3 Tryd.cellsC Tryd.cellsA4 h
  have c0 : W.cell? ⟨0, 0, none⟩ = some (.int .i64 4) := ht.cell gTab 0 (by decide)
  exact ⟨c0, ht.cell gTab 1 (by decide), ht.cell gTab 2 (by decide), ht.cell gTab 3 (by decide), World.block_lt_of_cell? W _ c0⟩
/-- a world for the witness: block 0 holds the sizes -/
noncomputable def laidWorld (os : Os) : World :=
  { World.holding Tryd.prog os ⟨#[], #[], []⟩ with heap := (World.holding Tryd.prog os ⟨#[], #[], []⟩).heap.modify 0 fun
      | .cells _ t frozen => .cells #[.int .i64 4, .int .i64 16, .int .i64 64, .int .i64 256] t frozen
      | o => o }
end Go.Proofs.YtbmgmjfpoepgpaaDoor
