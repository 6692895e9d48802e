/- Rows, lists with their entries that came in. -/
import Derived.Test.YtbmgmjfpoepgpaaOpenC
import Derived.Test.YtbmgmjfpoepgpaaFRefF
namespace Go.Proofs.Ytbmgmjfpoepgpaa
open Go.RowKit Go.ChangeShapes Go.WideShapes Go.Deep

set_option maxRecDepth 100000
theorem Try.cellsRow : Try.prog.cellsOf 73 = 4 := by kernel_rfl
theorem Try.cellsEnt : Try.prog.cellsOf 71 = 2 := by kernel_rfl
theorem Try.cellsLst : Try.prog.cellsOf 42 = 3 := by kernel_rfl
theorem Try.cellsI : Try.prog.cellsOf 3 = 1 := by kernel_rfl
structure RowM where
  a0 : Int
  a1 : Int
  a2 : Int
  a3 : Int
def RowM.ints (r : RowM) : List Int := [r.a0, r.a1, r.a2, r.a3]
def RowM.cells (r : RowM) : List Value := [.int .u32 r.a0, .int .u32 r.a1, .int .u32 r.a2, .int .u32 r.a3]
def RowM.wf (r : RowM) : Prop := ∀ x ∈ r.ints, U32 x
structure EIn where
  doc : Int
  pv : Value
  pos : List Int
def EIn.cells (e : EIn) : List Value := [.int .i64 e.doc, e.pv]
structure LIn2 where
  key : ByteArray
  rcd : Int
  ev : Value
  ents : List EntM
def LIn2.cells (l : LIn2) : List Value := [.string l.key, .int .i64 l.rcd, l.ev]
section
variable {H : Type} {enc : TypeId × Value → H} {w : World}
theorem open_slT {α : Type} (f : α → List Value) (size : Nat) (hs : 0 < size) (hf : ∀ x, (f x).length = size) (Q : α → Prop) {t e : TypeId} {cs0 : List Value} {x0 : DataW H × List MemPlace} {fuel : Nat}
    (ht : Try.prog.underlying t = some (.slice e)) (hC : Try.prog.cellsOf e = size)
    (h : DataW.trod enc Try.prog w 0 (fun _ => true) true fuel t cs0 = some x0)
    (hrd : ∀ (n : Nat) (cs : List Value) (x : DataW H × List MemPlace), cs.length = size → DataW.trod enc Try.prog w 0 (fun _ => true) true n e cs = some x → ∃ a : α, f a = cs ∧ Q a) :
    ∃ (A : Option Addr) (cap : Nat) (l : List α), cs0 = [.slice A l.length cap] ∧ (∀ a ∈ l, Q a) ∧ SlAt w (· < w.heap.size) size (.slice A l.length cap) l.length (l.flatMap f) := by
  rcases open_slice ht h with ⟨h0, _⟩ | ⟨a, len, cap, m, n, D, Pl, hcs, hb, hl, hm, hmm, hx, hi⟩
  · exact ⟨none, 0, [], h0, fun a ha => (by cases ha), none, 0, rfl, Nat.le_refl _, Nat.zero_le _, by simp, fun hn => absurd hn (by simp)⟩
  · simp only [if_true] at hmm
    subst hmm
    obtain ⟨l, hl1, hl2⟩ := list_of (Q := fun i x => Q x ∧ ∀ j u, (f x)[j]? = some u → w.cell? ((a.add (i * size)).add j) = some u) len (fun i hi' => by
      obtain ⟨cs', hc, ht'⟩ := hi i (by omega)
      rw [hC] at hc
      obtain ⟨_, hcl, hat⟩ := World.cells?_some hc
      obtain ⟨x, hx1, hx2⟩ := hrd n cs' _ hcl ht'
      refine ⟨x, hx2, fun j u hj => ?_⟩
      rw [hx1] at hj
      have hjl : j < size := by rw [← hcl]; exact (List.getElem?_eq_some_iff.1 hj).1
      rw [hat j hjl, hj])
    refine ⟨some a, m, l, by rw [hcs, hl1], fun x hx' => ?_, some a, m, by rw [hl1], by rw [hl1]; exact hl, hm, flat_len f size hf l, fun hn => ?_⟩
    · obtain ⟨i, hi', rfl⟩ := List.getElem_of_mem hx'
      exact (hl2 i _ (List.getElem?_eq_getElem hi')).1
    · obtain ⟨x0, hx0⟩ : ∃ x, l[0]? = some x := ⟨_, List.getElem?_eq_getElem hn⟩
      have hsp0 := (hl2 0 x0 hx0).2 0 ((f x0)[0]'(by rw [hf]; exact hs)) (List.getElem?_eq_getElem _)
      have hadd : ∀ (a : Addr) (i j : Nat), (a.add i).add j = a.add (i + j) := fun a i j => by
        unfold Addr.add
        by_cases hi : i = 0 <;> by_cases hj : j = 0 <;> simp [hi, hj, Nat.add_assoc]
      rw [hadd] at hsp0
      have hspot := World.cell?_spot hsp0
      obtain ⟨b, off, spot⟩ := a
      have hspot : spot = none := by simpa [Addr.add] using hspot
      subst hspot
      refine ⟨b, off, rfl, ?_, fun j u hj => ?_⟩
      · have := World.block_lt_of_cell? _ _ hsp0
        simpa [Addr.add] using this
      · obtain ⟨x, hx1, hx2⟩ := flat_get f size hs hf l j u hj
        have := (hl2 _ x hx1).2 _ u hx2
        rw [hadd, Nat.div_add_mod' j size] at this
        rw [← this]
        simp [Addr.add]
        try (by_cases hj0 : j = 0 <;> simp [hj0])
theorem read_row (n : Nat) (cs : List Value) (x : DataW H × List MemPlace) (hl : cs.length = 4)
    (h : DataW.trod enc Try.prog w 0 (fun _ => true) true n 73 cs = some x) : ∃ a : RowM, a.cells = cs ∧ a.wf := by
  have hf := read_fields Try.underlying73 (by kernel_rfl) h hl
  obtain ⟨c0, y0, n0, g0, f0⟩ := hf 0 _ rfl
  obtain ⟨c1, y1, n1, g1, f1⟩ := hf 1 _ rfl
  obtain ⟨c2, y2, n2, g2, f2⟩ := hf 2 _ rfl
  obtain ⟨c3, y3, n3, g3, f3⟩ := hf 3 _ rfl
  obtain ⟨a0, e0, _, w0⟩ := DataW.trod_int Try.underlying55 f0
  obtain ⟨a1, e1, _, w1⟩ := DataW.trod_int Try.underlying55 f1
  obtain ⟨a2, e2, _, w2⟩ := DataW.trod_int Try.underlying55 f2
  obtain ⟨a3, e3, _, w3⟩ := DataW.trod_int Try.underlying55 f3
  match cs, hl with
  | [b0, b1, b2, b3], _ =>
    simp only [List.getElem?_cons_zero, List.getElem?_cons_succ, Option.some.injEq] at g0 g1 g2 g3
    simp only [List.cons.injEq, and_true] at e0 e1 e2 e3
    subst g0 g1 g2 g3 e0 e1 e2 e3
    refine ⟨⟨a0, a1, a2, a3⟩, rfl, fun x hx => ?_⟩
    simp only [RowM.ints, List.mem_cons, List.not_mem_nil, or_false] at hx
    rcases hx with rfl | rfl | rfl | rfl
    · exact bounds_u32 w0
    · exact bounds_u32 w1
    · exact bounds_u32 w2
    · exact bounds_u32 w3
theorem open_rowsS {v : Value} {d : DataW H} {p : List MemPlace} {r : Reach} {b0 : Nat} (hv : Value.okWide Try.prog w r b0 29 v)
    (h : DataW.Trod enc Try.prog w 0 (fun _ => true) true 29 v d p) :
    ∃ (A : Option Addr) (cap : Nat) (l : List RowM), v = .slice A l.length cap ∧ (∀ x ∈ l.flatMap RowM.ints, U32 x) ∧ SlAt w (· < w.heap.size) 4 v l.length ((l.flatMap RowM.ints).map (Value.int .u32)) := by
  obtain ⟨A, cap, l, h1, h2, h3⟩ := open_sl RowM.cells 4 (by decide) (fun _ => rfl) RowM.wf Try.underlying29 Try.cellsRow hv h read_row
  refine ⟨A, cap, l, h1, fun x hx => ?_, ?_⟩
  · obtain ⟨r, hr, hx⟩ := List.mem_flatMap.1 hx
    exact h2 r hr x hx
  · have e : (l.flatMap RowM.ints).map (Value.int .u32) = l.flatMap RowM.cells := by rw [List.map_flatMap]; rfl
    rw [e]; exact h3
theorem read_ent (n : Nat) (cs : List Value) (x : DataW H × List MemPlace) (hl : cs.length = 2)
    (h : DataW.trod enc Try.prog w 0 (fun _ => true) true n 71 cs = some x) : ∃ a : EIn, a.cells = cs ∧ SlAt w (· < w.heap.size) 1 a.pv a.pos.length (a.pos.map (Value.int .i64)) := by
  have hf := read_fields Try.underlying71 (by kernel_rfl) h hl
  obtain ⟨c0, y0, n0, g0, f0⟩ := hf 0 _ rfl
  obtain ⟨c1, y1, n1, g1, f1⟩ := hf 1 _ rfl
  obtain ⟨a0, e0, _, w0⟩ := DataW.trod_int Try.underlying3 f0
  obtain ⟨A, cap, l, e1, _, h3⟩ := open_slT (fun x : Int => [Value.int .i64 x]) 1 (by decide) (fun _ => rfl) (fun _ => True) Try.underlying25 Try.cellsI f1 (fun n cs x hl hx => by
    obtain ⟨a, e1, _, _⟩ := DataW.trod_int Try.underlying3 hx
    exact ⟨a, e1.symm, trivial⟩)
  have e : ∀ l : List Int, l.flatMap (fun x : Int => [Value.int .i64 x]) = l.map (Value.int .i64) := by
    intro l; induction l with
    | nil => rfl
    | cons x l ih => rw [List.flatMap_cons, ih]; rfl
  rw [e] at h3
  match cs, hl with
  | [b0, b1], _ =>
    simp only [List.getElem?_cons_zero, List.getElem?_cons_succ, Option.some.injEq] at g0 g1
    simp only [List.cons.injEq, and_true] at e0 e1
    subst g0 g1 e0 e1
    exact ⟨⟨a0, .slice A l.length cap, l⟩, rfl, h3⟩
theorem entAt_ins {K : Nat → Prop} : ∀ l : List EIn, (∀ a ∈ l, SlAt w K 1 a.pv a.pos.length (a.pos.map (Value.int .i64))) → EntAt w K (l.map fun e => ⟨e.doc, e.pos⟩) (l.flatMap EIn.cells)
  | [], _ => rfl
  | e :: l, h => ⟨e.pv, l.flatMap EIn.cells, rfl, h e (by simp), entAt_ins l (fun a ha => h a (by simp [ha]))⟩
theorem read_lst (n : Nat) (cs : List Value) (x : DataW H × List MemPlace) (hl : cs.length = 3)
    (h : DataW.trod enc Try.prog w 0 (fun _ => true) true n 42 cs = some x) : ∃ a : LIn2, a.cells = cs ∧ EntV w (· < w.heap.size) a.ev a.ents := by
  have hf := read_fields Try.underlying42 (by kernel_rfl) h hl
  obtain ⟨c0, y0, n0, g0, f0⟩ := hf 0 _ rfl
  obtain ⟨c1, y1, n1, g1, f1⟩ := hf 1 _ rfl
  obtain ⟨c2, y2, n2, g2, f2⟩ := hf 2 _ rfl
  obtain ⟨a0, e0, _⟩ := DataW.trod_string Try.underlying9 f0
  obtain ⟨a1, e1, _, w1⟩ := DataW.trod_int Try.underlying3 f1
  obtain ⟨A, cap, l, e2, h2, h3⟩ := open_slT EIn.cells 2 (by decide) (fun _ => rfl) (fun a : EIn => SlAt w (· < w.heap.size) 1 a.pv a.pos.length (a.pos.map (Value.int .i64))) Try.underlying37 Try.cellsEnt f2 read_ent
  match cs, hl with
  | [b0, b1, b2], _ =>
    simp only [List.getElem?_cons_zero, List.getElem?_cons_succ, Option.some.injEq] at g0 g1 g2
    simp only [List.cons.injEq, and_true] at e0 e1 e2
    subst g0 g1 g2 e0 e1 e2
    exact ⟨⟨a0, a1, .slice A l.length cap, l.map fun e => ⟨e.doc, e.pos⟩⟩, rfl, _, by simpa using h3, entAt_ins l h2⟩
theorem listAt_ins {K : Nat → Prop} : ∀ l : List LIn2, (∀ a ∈ l, EntV w K a.ev a.ents) → ListAt w K (l.map fun e => ⟨e.key, e.rcd, e.ents⟩) (l.flatMap LIn2.cells)
  | [], _ => rfl
  | e :: l, h => ⟨e.ev, l.flatMap LIn2.cells, rfl, h e (by simp), listAt_ins l (fun a ha => h a (by simp [ha]))⟩
theorem open_listsS {v : Value} {d : DataW H} {p : List MemPlace} {r : Reach} {b0 : Nat} (hv : Value.okWide Try.prog w r b0 30 v)
    (h : DataW.Trod enc Try.prog w 0 (fun _ => true) true 30 v d p) :
    ∃ (A : Option Addr) (cap : Nat) (l : List LstM), v = .slice A l.length cap ∧ True ∧ ListsV w (· < w.heap.size) v l := by
  obtain ⟨A, cap, l, h1, h2, h3⟩ := open_sl LIn2.cells 3 (by decide) (fun _ => rfl) (fun a : LIn2 => EntV w (· < w.heap.size) a.ev a.ents) Try.underlying30 Try.cellsLst hv h read_lst
  exact ⟨A, cap, l.map fun e => ⟨e.key, e.rcd, e.ents⟩, by rw [h1]; simp, trivial, _, by simpa using h3, listAt_ins l h2⟩
end
end Go.Proofs.Ytbmgmjfpoepgpaa
