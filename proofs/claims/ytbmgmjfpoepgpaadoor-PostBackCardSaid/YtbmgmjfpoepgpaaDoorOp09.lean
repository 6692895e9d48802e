/- Slices of layer 9's operations that came in. -/
import Derived.Test.YtbmgmjfpoepgpaaDoorOpen09
namespace Go.Proofs.YtbmgmjfpoepgpaaDoor
open Go.RowKit Go.ChangeShapes Go.WideShapes Go.Deep

structure OpM where
  t : Int
  w : Int
def OpM.cells (x : OpM) : List Value := [.int .u8 x.t, .int .u32 x.w]
def OpM.wf (x : OpM) : Prop := (0 ≤ x.t ∧ x.t ≤ 255) ∧ (0 ≤ x.w ∧ x.w ≤ 4294967295)
theorem flatOp : ∀ (l : List OpM) (k : Nat) (x : OpM), l[k]? = some x →
    (l.flatMap OpM.cells)[k * 2]? = some (.int .u8 x.t) ∧ (l.flatMap OpM.cells)[k * 2 + 1]? = some (.int .u32 x.w)
  | y :: l, 0, x, h => by
    simp at h; subst h; exact ⟨rfl, rfl⟩
  | y :: l, k + 1, x, h => by
    have ih := flatOp l k x (by simpa using h)
    have e1 : (k + 1) * 2 = k * 2 + 2 := by omega
    rw [e1]
    exact ih
theorem SlAt.op {w : World} {K : Nat → Prop} {v : Value} {l : List OpM} (h : SlAt w K 2 v l.length (l.flatMap OpM.cells)) {k : Nat} {x : OpM} (hk : l[k]? = some x) :
    ∃ b off cap, v = .slice (some ⟨b, off, none⟩) l.length cap ∧ K b ∧ w.cell? ⟨b, off + k * 2, none⟩ = some (.int .u8 x.t) ∧ w.cell? ⟨b, off + k * 2 + 1, none⟩ = some (.int .u32 x.w) := by
  obtain ⟨A, cap, h1, h2, h3, h4, h5⟩ := h
  have hlt : k < l.length := (List.getElem?_eq_some_iff.1 hk).1
  obtain ⟨b, off, e, hb, hc⟩ := h5 (by omega)
  subst e
  obtain ⟨f0, f1⟩ := flatOp l k x hk
  exact ⟨b, off, cap, h1, hb, hc _ _ f0, hc _ _ f1⟩
theorem SlAt.getU {α : Type} {f : α → Value} {w : World} {K : Nat → Prop} {v : Value} {xs : List α} (h : SlAt w K 1 v xs.length (xs.map f)) (i : Nat) (x : α) (hi : xs[i]? = some x) :
    ∃ b off cap, v = .slice (some ⟨b, off, none⟩) xs.length cap ∧ K b ∧ w.cell? ⟨b, off + i, none⟩ = some (f x) := by
  obtain ⟨A, cap, h1, h2, h3, h4, h5⟩ := h
  have hlt := (List.getElem?_eq_some_iff.1 hi).1
  obtain ⟨b, off, e, hb, hc⟩ := h5 (by omega)
  exact ⟨b, off, cap, by rw [h1, e], hb, hc i (f x) (by rw [List.getElem?_map, hi]; rfl)⟩
theorem SlAt.boundU {w : World} {K : Nat → Prop} {v : Value} {n : Nat} {xs : List Value} (h : SlAt w K 1 v n xs) : SlAt w (fun b => K b ∧ b < w.heap.size) 1 v n xs := by
  obtain ⟨A, cap, h1, h2, h3, h4, h5⟩ := h
  refine ⟨A, cap, h1, h2, h3, h4, fun hn => ?_⟩
  obtain ⟨b, off, e, hb, hc⟩ := h5 hn
  have h0 := hc 0 (xs[0]'(by omega)) (List.getElem?_eq_getElem _)
  exact ⟨b, off, e, ⟨hb, by have := World.block_lt_of_cell? _ _ h0; exact this⟩, hc⟩
set_option maxRecDepth 100000
theorem Tryd.cellsOp : Tryd.prog.cellsOf 43 = 2 := by kernel_rfl
section
variable {H : Type} {enc : TypeId × Value → H} {w : World}
theorem read_op (n : Nat) (cs : List Value) (x : DataW H × List MemPlace) (hl : cs.length = 2)
    (h : DataW.trod enc Tryd.prog w 0 (fun _ => true) true n 43 cs = some x) : ∃ a : OpM, a.cells = cs ∧ a.wf := by
  have hf := read_fields Tryd.underlying43 (by kernel_rfl) h hl
  obtain ⟨c0, y0, n0, g0, f0⟩ := hf 0 _ rfl
  obtain ⟨c1, y1, n1, g1, f1⟩ := hf 1 _ rfl
  obtain ⟨a0, e0, _, w0⟩ := DataW.trod_int Tryd.underlying5 f0
  obtain ⟨a1, e1, _, w1⟩ := DataW.trod_int Tryd.underlying41 f1
  match cs, hl with
  | [b0, b1], _ =>
    simp only [List.getElem?_cons_zero, List.getElem?_cons_succ, Option.some.injEq] at g0 g1
    simp only [List.cons.injEq, and_true] at e0 e1
    subst g0 g1 e0 e1
    exact ⟨⟨a0, a1⟩, rfl, bounds_u8 w0, bounds_u32 w1⟩
theorem open_opS {v : Value} {d : DataW H} {p : List MemPlace} {r : Reach} {b0 : Nat} (hv : Value.okWide Tryd.prog w r b0 26 v)
    (h : DataW.Trod enc Tryd.prog w 0 (fun _ => true) true 26 v d p) :
    ∃ (A : Option Addr) (cap : Nat) (l : List OpM), v = .slice A l.length cap ∧ (∀ a ∈ l, a.wf) ∧ SlAt w (· < w.heap.size) 2 v l.length (l.flatMap OpM.cells) :=
  open_sl OpM.cells 2 (by decide) (fun _ => rfl) OpM.wf Tryd.underlying26 Tryd.cellsOp hv h read_op
end
end Go.Proofs.YtbmgmjfpoepgpaaDoor
