/- From an argument's reading to slices that read as lists; the frame of a law's row. -/
import Derived.Test.YtbepgbkbpkaodaaDoorJSl
import Derived.Test.YtbepgbkbpkaodaaDoorRows
import Derived.ProofKit
import Derived.OpenShut
import Derived.Deep.Slices
import Derived.Deep.Fields
import Derived.ChangeSame
import Derived.SizedLaws
namespace Go.Proofs.YtbepgbkbpkaodaaDoor
open Go.RowKit Go.ChangeShapes Go.WideShapes Go.Deep

theorem list_of {α : Type} {Q : Nat → α → Prop} : ∀ n : Nat, (∀ i, i < n → ∃ x, Q i x) → ∃ l : List α, l.length = n ∧ ∀ i x, l[i]? = some x → Q i x
  | 0, _ => ⟨[], rfl, fun i x h => by simp at h⟩
  | n + 1, h => by
    obtain ⟨l, h1, h2⟩ := list_of n (fun i hi => h i (by omega))
    obtain ⟨x, hx⟩ := h n (by omega)
    refine ⟨l ++ [x], by simp [h1], fun i y hy => ?_⟩
    rcases Nat.lt_trichotomy i l.length with hi | hi | hi
    · rw [List.getElem?_append_left hi] at hy; exact h2 i y hy
    · subst hi; rw [List.getElem?_append_right (Nat.le_refl _)] at hy
      simp at hy; subst hy; rw [h1]; exact hx
    · rw [List.getElem?_append_right (by omega)] at hy
      rw [List.getElem?_eq_none (by simp; omega)] at hy; cases hy

theorem flat_get {α : Type} (f : α → List Value) (size : Nat) (hs : 0 < size) (hf : ∀ x, (f x).length = size) : ∀ (l : List α) (j : Nat) (u : Value), (l.flatMap f)[j]? = some u →
    ∃ x, l[j / size]? = some x ∧ (f x)[j % size]? = some u
  | [], j, u, h => by simp at h
  | x :: l, j, u, h => by
    rw [List.flatMap_cons] at h
    rcases Nat.lt_or_ge j size with hj | hj
    · rw [List.getElem?_append_left (by rw [hf]; exact hj)] at h
      exact ⟨x, by rw [Nat.div_eq_of_lt hj]; rfl, by rw [Nat.mod_eq_of_lt hj]; exact h⟩
    · rw [List.getElem?_append_right (by rw [hf]; exact hj), hf] at h
      obtain ⟨y, h1, h2⟩ := flat_get f size hs hf l (j - size) u h
      refine ⟨y, ?_, ?_⟩
      · have e : j / size = (j - size) / size + 1 := by rw [Nat.div_eq_sub_div hs hj]
        rw [e]; exact h1
      · rw [Nat.mod_eq_sub_mod hj]; exact h2

theorem flat_len {α : Type} (f : α → List Value) (size : Nat) (hf : ∀ x, (f x).length = size) : ∀ (l : List α), (l.flatMap f).length = l.length * size
  | [] => by simp
  | x :: l => by rw [List.flatMap_cons, List.length_append, hf, flat_len f size hf l, List.length_cons, Nat.succ_mul]; omega

set_option maxRecDepth 100000
section
variable {H : Type} {enc : TypeId × Value → H} {w : World}
theorem read_fields {e : TypeId} {fs : Array Field} {n : Nat} {cs : List Value} {x : DataW H × List MemPlace} (hs : Tryd.prog.underlying e = some (.struct fs))
    (hone : oneCellFields Tryd.prog fs = true) (h : DataW.trod enc Tryd.prog w 0 (fun _ => true) true n e cs = some x) (hl : cs.length = fs.size) :
    ∀ (j : Nat) (f : Field), fs[j]? = some f → ∃ (v : Value) (y : DataW H × List MemPlace) (n' : Nat), cs[j]? = some v ∧ DataW.trod enc Tryd.prog w 0 (fun _ => true) true n' f.type [v] = some y := by
  obtain ⟨xs, n', _, _, _, hlen, hf⟩ := DataW.trod_struct hs h
  intro j f hj
  obtain ⟨ho, hk⟩ := hone_of hone j f hj
  have hjl : j < fs.size := (Array.getElem?_eq_some_iff.1 hj).1
  have h1 := hf j f hj
  rw [ho, hk] at h1
  have e1 : (cs.drop j).take 1 = [cs[j]'(by omega)] := by
    rw [List.drop_eq_getElem_cons (by omega)]
    rfl
  rw [e1, List.getElem?_eq_getElem (by omega)] at h1
  exact ⟨_, _, n', List.getElem?_eq_getElem (by omega), h1⟩

/-- a slice that came in, whose elements have as many cells as 'size' says -/
theorem open_sl {α : Type} (f : α → List Value) (size : Nat) (hs : 0 < size) (hf : ∀ x, (f x).length = size) (Q : α → Prop) {t e : TypeId} {v : Value} {d : DataW H} {p : List MemPlace}
    (ht : Tryd.prog.underlying t = some (.slice e)) (hC : Tryd.prog.cellsOf e = size) {r : Reach} {b0 : Nat} (hv : Value.okWide Tryd.prog w r b0 t v)
    (h : DataW.Trod enc Tryd.prog w 0 (fun _ => true) true t v d p)
    (hrd : ∀ (n : Nat) (cs : List Value) (x : DataW H × List MemPlace), cs.length = size → DataW.trod enc Tryd.prog w 0 (fun _ => true) true n e cs = some x → ∃ a : α, f a = cs ∧ Q a) :
    ∃ (A : Option Addr) (cap : Nat) (l : List α), v = .slice A l.length cap ∧ (∀ a ∈ l, Q a) ∧ SlAt w (· < w.heap.size) size v l.length (l.flatMap f) := by
  obtain ⟨a0, len, cap, rfl⟩ := okWide_slice ht hv
  obtain ⟨fuel, hf'⟩ := h
  rcases open_slice ht hf' with ⟨h0, _⟩ | ⟨a, len', cap', m, n, D, Pl, hcs, hb, hl, hm, hmm, hx, hi⟩
  · simp [Value.cells] at h0
    obtain ⟨rfl, rfl, rfl⟩ := h0
    exact ⟨none, 0, [], rfl, fun a ha => (by cases ha), none, 0, rfl, Nat.le_refl _, Nat.zero_le _, by simp, fun hn => absurd hn (by simp)⟩
  · simp [Value.cells] at hcs
    obtain ⟨rfl, rfl, rfl⟩ := hcs
    simp only [if_true] at hmm
    subst hmm
    obtain ⟨l, hl1, hl2⟩ := list_of (Q := fun i x => Q x ∧ ∀ j u, (f x)[j]? = some u → w.cell? ((a.add (i * size)).add j) = some u) len (fun i hi' => by
      obtain ⟨cs', hc, ht'⟩ := hi i (by omega)
      rw [hC] at hc
      obtain ⟨_, hcl, hat⟩ := World.cells?_some hc
      obtain ⟨x, hx1, hx2⟩ := hrd n cs' _ hcl ht'
      refine ⟨x, hx2, fun j u hj => ?_⟩
      rw [hx1] at hj
      have hjl : j < size := by rw [← hcl]; exact (List.getElem?_eq_some_iff.1 hj).1
      rw [hat j hjl, hj])
    refine ⟨some a, m, l, by rw [hl1], fun x hx' => ?_, some a, m, by rw [hl1], by rw [hl1]; exact hl, hm, flat_len f size hf l, fun hn => ?_⟩
    · obtain ⟨i, hi', rfl⟩ := List.getElem_of_mem hx'
      exact (hl2 i _ (List.getElem?_eq_getElem hi')).1
    · obtain ⟨x0, hx0⟩ : ∃ x, l[0]? = some x := ⟨_, List.getElem?_eq_getElem hn⟩
      have hsp0 := (hl2 0 x0 hx0).2 0 ((f x0)[0]'(by rw [hf]; exact hs)) (List.getElem?_eq_getElem _)
      have hadd : ∀ (a : Addr) (i j : Nat), (a.add i).add j = a.add (i + j) := fun a i j => by
        unfold Addr.add
        by_cases hi : i = 0 <;> by_cases hj : j = 0 <;> simp [hi, hj, Nat.add_assoc]
      rw [hadd] at hsp0
      have hspot := World.cell?_spot hsp0
      obtain ⟨b, off, spot⟩ := a
      have hspot : spot = none := by simpa [Addr.add] using hspot
      subst hspot
      refine ⟨b, off, rfl, ?_, fun j u hj => ?_⟩
      · have := World.block_lt_of_cell? _ _ hsp0
        simpa [Addr.add] using this
      · obtain ⟨x, hx1, hx2⟩ := flat_get f size hs hf l j u hj
        have := (hl2 _ x hx1).2 _ u hx2
        rw [hadd, Nat.div_add_mod' j size] at this
        rw [← this]
        simp [Addr.add]
        try (by_cases hj0 : j = 0 <;> simp [hj0])

/-- a slice of integers that came in -/
theorem open_intS (k : IntKind) {t e : TypeId} {v : Value} {d : DataW H} {p : List MemPlace} (ht : Tryd.prog.underlying t = some (.slice e)) (he : Tryd.prog.underlying e = some (.int k)) (hC : Tryd.prog.cellsOf e = 1)
    {r : Reach} {b0 : Nat} (hv : Value.okWide Tryd.prog w r b0 t v) (h : DataW.Trod enc Tryd.prog w 0 (fun _ => true) true t v d p) :
    ∃ (A : Option Addr) (cap : Nat) (l : List Int), v = .slice A l.length cap ∧ (∀ a ∈ l, (Lit.int k a).wf = true) ∧ SlAt w (· < w.heap.size) 1 v l.length (l.map (Value.int k)) := by
  obtain ⟨A, cap, l, h1, h2, h3⟩ := open_sl (fun x : Int => [Value.int k x]) 1 (by decide) (fun _ => rfl) (fun x => (Lit.int k x).wf = true) ht hC hv h (fun n cs x hl hx => by
    obtain ⟨a, e1, _, wa⟩ := DataW.trod_int he hx
    exact ⟨a, e1.symm, wa⟩)
  have e : ∀ l : List Int, l.flatMap (fun x : Int => [Value.int k x]) = l.map (Value.int k) := by
    intro l; induction l with
    | nil => rfl
    | cons x l ih => rw [List.flatMap_cons, ih]; rfl
  rw [e] at h3
  exact ⟨A, cap, l, h1, h2, h3⟩
end
end Go.Proofs.YtbepgbkbpkaodaaDoor

/- What the last texts of all laws want. -/
namespace Go.Proofs.YtbepgbkbpkaodaaDoor
open Go.RowKit Go.ChangeShapes Go.WideShapes Go.Deep

set_option maxRecDepth 100000
theorem Tryd.own : ownKnob Tryd.prog.godebug = none := by kernel_rfl
theorem Tryd.laidOut : laidOutB Tryd.prog = true := by kernel_rfl

section
variable {H : Type} {enc : TypeId × Value → H} {w : World}
theorem open_u8S {v : Value} {d : DataW H} {p : List MemPlace} {r : Reach} {b0 : Nat} (hv : Value.okWide Tryd.prog w r b0 67 v) (h : DataW.Trod enc Tryd.prog w 0 (fun _ => true) true 67 v d p) :
    ∃ (A : Option Addr) (cap : Nat) (l : List Int), v = .slice A l.length cap ∧ (∀ a ∈ l, (Lit.int .u8 a).wf = true) ∧ SlAt w (· < w.heap.size) 1 v l.length (l.map (Value.int .u8)) :=
  open_intS .u8 Tryd.underlying67 Tryd.underlying5 (by kernel_rfl) hv h
end

/-- an argument reads behind the call as it did -/
theorem arg_kept {H : Type} {enc : TypeId × Value → H} {t : TypeId} (hr : Tryd.prog.readableRec t = true) (hrow : t < Tryd.prog.types.size) {W W' : World} {v : Value} {d : DataW H} {ps : List MemPlace}
    (h : DataW.Trod enc Tryd.prog W 0 (fun _ => true) true t v d ps) (hb : Keeps (· < W.heap.size) W W') (hlt : ∀ x ∈ ps, x.block < W.heap.size) :
    DataW.Trod enc Tryd.prog W' 0 (fun b => decide (b < W.heap.size)) true t v d ps := Below.trod Tryd.laidOut hr hrow h hb.below hlt
end Go.Proofs.YtbepgbkbpkaodaaDoor

/- From an argument's reading to a slice of texts, none of them longer than the form's own reach. -/
namespace Go.Proofs.YtbepgbkbpkaodaaDoor
open Go.RowKit Go.ChangeShapes Go.WideShapes Go.Deep

set_option maxRecDepth 100000
section
variable {H : Type} {enc : TypeId × Value → H} {w : World}
/-- a slice that came in, with its elements' readings -/
theorem open_slR {α : Type} (f : α → List Value) (size : Nat) (hs : 0 < size) (hf : ∀ x, (f x).length = size) (Q : α → DataW H → Prop) {t e : TypeId} {v : Value} {d : DataW H} {p : List MemPlace}
    (ht : Tryd.prog.underlying t = some (.slice e)) (hC : Tryd.prog.cellsOf e = size) {r : Reach} {b0 : Nat} (hv : Value.okWide Tryd.prog w r b0 t v)
    (h : DataW.Trod enc Tryd.prog w 0 (fun _ => true) true t v d p)
    (hrd : ∀ (n : Nat) (cs : List Value) (x : DataW H × List MemPlace), cs.length = size → DataW.trod enc Tryd.prog w 0 (fun _ => true) true n e cs = some x → ∃ a : α, f a = cs ∧ Q a x.1) :
    ∃ (A : Option Addr) (cap : Nat) (l : List α), v = .slice A l.length cap ∧ (∀ a ∈ l, ∃ elems spare D, d = .slice elems spare ∧ D ∈ elems ∧ Q a D) ∧ SlAt w (· < w.heap.size) size v l.length (l.flatMap f) := by
  obtain ⟨a0, len, cap, rfl⟩ := okWide_slice ht hv
  obtain ⟨fuel, hf'⟩ := h
  rcases open_slice ht hf' with ⟨h0, _⟩ | ⟨a, len', cap', m, n, D, Pl, hcs, hb, hl, hm, hmm, hx, hi⟩
  · simp [Value.cells] at h0
    obtain ⟨rfl, rfl, rfl⟩ := h0
    exact ⟨none, 0, [], rfl, fun a ha => (by cases ha), none, 0, rfl, Nat.le_refl _, Nat.zero_le _, by simp, fun hn => absurd hn (by simp)⟩
  · simp [Value.cells] at hcs
    obtain ⟨rfl, rfl, rfl⟩ := hcs
    simp only [if_true] at hmm
    subst hmm
    obtain ⟨l, hl1, hl2⟩ := list_of (Q := fun i x => Q x (D i) ∧ ∀ j u, (f x)[j]? = some u → w.cell? ((a.add (i * size)).add j) = some u) len (fun i hi' => by
      obtain ⟨cs', hc, ht'⟩ := hi i (by omega)
      rw [hC] at hc
      obtain ⟨_, hcl, hat⟩ := World.cells?_some hc
      obtain ⟨x, hx1, hx2⟩ := hrd n cs' _ hcl ht'
      refine ⟨x, hx2, fun j u hj => ?_⟩
      rw [hx1] at hj
      have hjl : j < size := by rw [← hcl]; exact (List.getElem?_eq_some_iff.1 hj).1
      rw [hat j hjl, hj])
    refine ⟨some a, m, l, by rw [hl1], fun x hx' => ?_, some a, m, by rw [hl1], by rw [hl1]; exact hl, hm, flat_len f size hf l, fun hn => ?_⟩
    · obtain ⟨i, hi', rfl⟩ := List.getElem_of_mem hx'
      have := (hl2 i _ (List.getElem?_eq_getElem hi')).1
      injection hx with hx _
      exact ⟨_, _, D i, hx, List.mem_map.2 ⟨i, List.mem_range.2 (by omega), rfl⟩, this⟩
    · obtain ⟨x0, hx0⟩ : ∃ x, l[0]? = some x := ⟨_, List.getElem?_eq_getElem hn⟩
      have hsp0 := (hl2 0 x0 hx0).2 0 ((f x0)[0]'(by rw [hf]; exact hs)) (List.getElem?_eq_getElem _)
      have hadd : ∀ (a : Addr) (i j : Nat), (a.add i).add j = a.add (i + j) := fun a i j => by
        unfold Addr.add
        by_cases hi : i = 0 <;> by_cases hj : j = 0 <;> simp [hi, hj, Nat.add_assoc]
      rw [hadd] at hsp0
      have hspot := World.cell?_spot hsp0
      obtain ⟨b, off, spot⟩ := a
      have hspot : spot = none := by simpa [Addr.add] using hspot
      subst hspot
      refine ⟨b, off, rfl, ?_, fun j u hj => ?_⟩
      · have := World.block_lt_of_cell? _ _ hsp0
        simpa [Addr.add] using this
      · obtain ⟨x, hx1, hx2⟩ := flat_get f size hs hf l j u hj
        have := (hl2 _ x hx1).2 _ u hx2
        rw [hadd, Nat.div_add_mod' j size] at this
        rw [← this]
        simp [Addr.add]
        try (by_cases hj0 : j = 0 <;> simp [hj0])

theorem weightsAll_memX {P : Program} {e : TypeId} : ∀ {l : List (DataW H)} {d : DataW H}, d ∈ l → ∀ n ∈ d.weights P e, n ∈ DataW.weightsAll P e l
  | d' :: r, d, hd, n, hn => by
    simp only [DataW.weightsAll, List.mem_append]
    rcases List.mem_cons.1 hd with rfl | h
    · exact Or.inl hn
    · exact Or.inr (weightsAll_memX h n hn)

/-- a text inside a slice among the arguments is no longer than the reach -/
theorem sized_strX {P : Program} {ts : List TypeId} {ds : List (DataW H)} (h : (DataW.weightsEach P ts ds).all (· ≤ reachBytes) = true) {j : Nat} {t e : TypeId} {d : DataW H} (ht : ts[j]? = some t) (hd : ds[j]? = some d)
    (hu : P.underlying t = some (.slice e)) {x : ByteArray} (hx : ∃ elems spare D, d = .slice elems spare ∧ D ∈ elems ∧ D = .lit (.string x.data.toList)) : x.size ≤ 140737488351232 := by
  obtain ⟨elems, spare, D, rfl, hm, rfl⟩ := hx
  have := List.all_eq_true.1 h _ (DataW.weights_mem_each ht hd x.data.toList.length (by
    simp only [DataW.weights, hu, List.mem_cons, List.mem_append]
    exact Or.inr (Or.inl (weightsAll_memX hm _ (by simp [DataW.weights])))))
  have h2 : x.data.toList.length ≤ reachBytes := by simpa using this
  simpa [reachBytes] using h2
theorem sized_strA {P : Program} {ts : List TypeId} {ds : List (DataW H)} (h : (DataW.weightsEach P ts ds).all (· ≤ reachBytes) = true) {j : Nat} {t : TypeId} {x : ByteArray} (ht : ts[j]? = some t) (hd : ds[j]? = some (.lit (.string x.data.toList))) : x.size ≤ 140737488351232 := by
  have h2 : x.data.toList.length ≤ reachBytes := sized_string h ht hd
  simpa [reachBytes] using h2

theorem open_strS {t e : TypeId} {v : Value} {d : DataW H} {p : List MemPlace} (ht : Tryd.prog.underlying t = some (.slice e)) (he : Tryd.prog.underlying e = some .string) (hC : Tryd.prog.cellsOf e = 1)
    {r : Reach} {b0 : Nat} (hv : Value.okWide Tryd.prog w r b0 t v) (h : DataW.Trod enc Tryd.prog w 0 (fun _ => true) true t v d p) :
    ∃ (A : Option Addr) (cap : Nat) (l : List ByteArray), v = .slice A l.length cap ∧ (∀ a ∈ l, ∃ elems spare D, d = .slice elems spare ∧ D ∈ elems ∧ D = .lit (.string a.data.toList)) ∧ SlAt w (· < w.heap.size) 1 v l.length (l.map Value.string) := by
  obtain ⟨A, cap, l, h1, h2, h3⟩ := open_slR (fun x : ByteArray => [Value.string x]) 1 (by decide) (fun _ => rfl) (fun x D => D = .lit (.string x.data.toList)) ht hC hv h (fun n cs x hl hx => by
    obtain ⟨a, e1, e2, _⟩ := DataW.trod_string he hx
    exact ⟨a, e1.symm, by rw [e2]⟩)
  have e : ∀ l : List ByteArray, l.flatMap (fun x : ByteArray => [Value.string x]) = l.map Value.string := by
    intro l; induction l with
    | nil => rfl
    | cons x l ih => rw [List.flatMap_cons, ih]; rfl
  rw [e] at h3
  exact ⟨A, cap, l, h1, h2, h3⟩
theorem open_strsS {v : Value} {d : DataW H} {p : List MemPlace} {r : Reach} {b0 : Nat} (hv : Value.okWide Tryd.prog w r b0 84 v) (h : DataW.Trod enc Tryd.prog w 0 (fun _ => true) true 84 v d p) :
    ∃ (A : Option Addr) (cap : Nat) (l : List ByteArray), v = .slice A l.length cap ∧ (∀ a ∈ l, ∃ elems spare D, d = .slice elems spare ∧ D ∈ elems ∧ D = .lit (.string a.data.toList)) ∧ SlAt w (· < w.heap.size) 1 v l.length (l.map Value.string) :=
  open_strS Tryd.underlying84 Tryd.underlying9 (by kernel_rfl) hv h
end
end Go.Proofs.YtbepgbkbpkaodaaDoor
