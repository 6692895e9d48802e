/- What the last texts of all laws want. -/
import Derived.Test.YtbepgbkbpkaodaaDoorOpen
import Derived.SizedLaws
namespace Go.Proofs.YtbepgbkbpkaodaaDoor
open Go.RowKit Go.ChangeShapes Go.WideShapes Go.Deep

set_option maxRecDepth 100000
theorem Tryd.own : ownKnob Tryd.prog.godebug = none := by kernel_rfl
theorem Tryd.laidOut : laidOutB Tryd.prog = true := by kernel_rfl

section
variable {H : Type} {enc : TypeId × Value → H} {w : World}
theorem open_u8S {v : Value} {d : DataW H} {p : List MemPlace} {r : Reach} {b0 : Nat} (hv : Value.okWide Tryd.prog w r b0 67 v) (h : DataW.Trod enc Tryd.prog w 0 (fun _ => true) true 67 v d p) :
    ∃ (A : Option Addr) (cap : Nat) (l : List Int), v = .slice A l.length cap ∧ (∀ a ∈ l, (Lit.int .u8 a).wf = true) ∧ SlAt w (· < w.heap.size) 1 v l.length (l.map (Value.int .u8)) :=
  open_intS .u8 Tryd.underlying67 Tryd.underlying5 (by kernel_rfl) hv h
end

/-- an argument reads behind the call as it did -/
theorem arg_kept {H : Type} {enc : TypeId × Value → H} {t : TypeId} (hr : Tryd.prog.readableRec t = true) (hrow : t < Tryd.prog.types.size) {W W' : World} {v : Value} {d : DataW H} {ps : List MemPlace}
    (h : DataW.Trod enc Tryd.prog W 0 (fun _ => true) true t v d ps) (hb : Keeps (· < W.heap.size) W W') (hlt : ∀ x ∈ ps, x.block < W.heap.size) :
    DataW.Trod enc Tryd.prog W' 0 (fun b => decide (b < W.heap.size)) true t v d ps := Below.trod Tryd.laidOut hr hrow h hb.below hlt
end Go.Proofs.YtbepgbkbpkaodaaDoor

/- From an argument's reading to a slice of texts, none of them longer than the form's own reach. -/
namespace Go.Proofs.YtbepgbkbpkaodaaDoor
open Go.RowKit Go.ChangeShapes Go.WideShapes Go.Deep

set_option maxRecDepth 100000
section
variable {H : Type} {enc : TypeId × Value → H} {w : World}
/-- a slice that came in, with its elements' readings -/
theorem open_slR {α : Type} (f : α → List Value) (size : Nat) (hs : 0 < size) (hf : ∀ x, (f x).length = size) (Q : α → DataW H → Prop) {t e : TypeId} {v : Value} {d : DataW H} {p : List MemPlace}
    (ht : Tryd.prog.underlying t = some (.slice e)) (hC : Tryd.prog.cellsOf e = size) {r : Reach} {b0 : Nat} (hv : Value.okWide Tryd.prog w r b0 t v)
    (h : DataW.Trod enc Tryd.prog w 0 (fun _ => true) true t v d p)
    (hrd : ∀ (n : Nat) (cs : List Value) (x : DataW H × List MemPlace), cs.length = size → DataW.trod enc Tryd.prog w 0 (fun _ => true) true n e cs = some x → ∃ a : α, f a = cs ∧ Q a x.1) :
    ∃ (A : Option Addr) (cap : Nat) (l : List α), v = .slice A l.length cap ∧ (∀ a ∈ l, ∃ elems spare D, d = .slice elems spare ∧ D ∈ elems ∧ Q a D) ∧ SlAt w (· < w.heap.size) size v l.length (l.flatMap f) := by
  obtain ⟨a0, len, cap, rfl⟩ := okWide_slice ht hv
  obtain ⟨fuel, hf'⟩ := h
  rcases open_slice ht hf' with ⟨h0, _⟩ | ⟨a, len', cap', m, n, D, Pl, hcs, hb, hl, hm, hmm, hx, hi⟩
  · simp [Value.cells] at h0
    obtain ⟨rfl, rfl, rfl⟩ := h0
    exact ⟨none, 0, [], rfl, fun a ha => (by cases ha), none, 0, rfl, Nat.le_refl _, Nat.zero_le _, by simp, fun hn => absurd hn (by simp)⟩
  · simp [Value.cells] at hcs
    obtain ⟨rfl, rfl, rfl⟩ := hcs
    simp only [if_true] at hmm
    subst hmm
    obtain ⟨l, hl1, hl2⟩ := list_of (Q := fun i x => Q x (D i) ∧ ∀ j u, (f x)[j]? = some u → w.cell? ((a.add (i * size)).add j) = some u) len (fun i hi' => by
      obtain ⟨cs', hc, ht'⟩ := hi i (by omega)
      rw [hC] at hc
      obtain ⟨_, hcl, hat⟩ := World.cells?_some hc
      obtain ⟨x, hx1, hx2⟩ := hrd n cs' _ hcl ht'
      refine ⟨x, hx2, fun j u hj => ?_⟩
      rw [hx1] at hj
      have hjl : j < size := by rw [← hcl]; exact (List.getElem?_eq_some_iff.1 hj).1
      rw [hat j hjl, hj])
    refine ⟨some a, m, l, by rw [hl1], fun x hx' => ?_, some a, m, by rw [hl1], by rw [hl1]; exact hl, hm, flat_len f size hf l, fun hn => ?_⟩
    · obtain ⟨i, hi', rfl⟩ := List.getElem_of_mem hx'
      have := (hl2 i _ (List.getElem?_eq_getElem hi')).1
      injection hx with hx _
      exact ⟨_, _, D i, hx, List.mem_map.2 ⟨i, List.mem_range.2 (by omega), rfl⟩, this⟩
    · obtain ⟨x0, hx0⟩ : ∃ x, l[0]? = some x := ⟨_, List.getElem?_eq_getElem hn⟩
      have hsp0 := (hl2 0 x0 hx0).2 0 ((f x0)[0]'(by rw [hf]; exact hs)) (List.getElem?_eq_getElem _)
      have hadd : ∀ (a : Addr) (i j : Nat), (a.add i).add j = a.add (i + j) := fun a i j => by
        unfold Addr.add
        by_cases hi : i = 0 <;> by_cases hj : j = 0 <;> simp [hi, hj, Nat.add_assoc]
      rw [hadd] at hsp0
      have hspot := World.cell?_spot hsp0
      obtain ⟨b, off, spot⟩ := a
      have hspot : spot = none := by simpa [Addr.add] using hspot
      subst hspot
      refine ⟨b, off, rfl, ?_, fun j u hj => ?_⟩
      · have := World.block_lt_of_cell? _ _ hsp0
        simpa [Addr.add] using this
      · obtain ⟨x, hx1, hx2⟩ := flat_get f size hs hf l j u hj
        have := (hl2 _ x hx1).2 _ u hx2
        rw [hadd, Nat.div_add_mod' j size] at this
        rw [← this]
        simp [Addr.add]
        try (by_cases hj0 : j = 0 <;> simp [hj0])

theorem weightsAll_memX {P : Program} {e : TypeId} : ∀ {l : List (DataW H)} {d : DataW H}, d ∈ l → ∀ n ∈ d.weights P e, n ∈ DataW.weightsAll P e l
  | d' :: r, d, hd, n, hn => by
    simp only [DataW.weightsAll, List.mem_append]
    rcases List.mem_cons.1 hd with rfl | h
    · exact Or.inl hn
    · exact Or.inr (weightsAll_memX h n hn)

/-- a text inside a slice among the arguments is no longer than the reach -/
theorem sized_strX {P : Program} {ts : List TypeId} {ds : List (DataW H)} (h : (DataW.weightsEach P ts ds).all (· ≤ reachBytes) = true) {j : Nat} {t e : TypeId} {d : DataW H} (ht : ts[j]? = some t) (hd : ds[j]? = some d)
    (hu : P.underlying t = some (.slice e)) {x : ByteArray} (hx : ∃ elems spare D, d = .slice elems spare ∧ D ∈ elems ∧ D = .lit (.string x.data.toList)) : x.size ≤ 140737488351232 := by
  obtain ⟨elems, spare, D, rfl, hm, rfl⟩ := hx
  have := List.all_eq_true.1 h _ (DataW.weights_mem_each ht hd x.data.toList.length (by
    simp only [DataW.weights, hu, List.mem_cons, List.mem_append]
    exact Or.inr (Or.inl (weightsAll_memX hm _ (by simp [DataW.weights])))))
  have h2 : x.data.toList.length ≤ reachBytes := by simpa using this
  simpa [reachBytes] using h2
theorem sized_strA {P : Program} {ts : List TypeId} {ds : List (DataW H)} (h : (DataW.weightsEach P ts ds).all (· ≤ reachBytes) = true) {j : Nat} {t : TypeId} {x : ByteArray} (ht : ts[j]? = some t) (hd : ds[j]? = some (.lit (.string x.data.toList))) : x.size ≤ 140737488351232 := by
  have h2 : x.data.toList.length ≤ reachBytes := sized_string h ht hd
  simpa [reachBytes] using h2

theorem open_strS {t e : TypeId} {v : Value} {d : DataW H} {p : List MemPlace} (ht : Tryd.prog.underlying t = some (.slice e)) (he : Tryd.prog.underlying e = some .string) (hC : Tryd.prog.cellsOf e = 1)
    {r : Reach} {b0 : Nat} (hv : Value.okWide Tryd.prog w r b0 t v) (h : DataW.Trod enc Tryd.prog w 0 (fun _ => true) true t v d p) :
    ∃ (A : Option Addr) (cap : Nat) (l : List ByteArray), v = .slice A l.length cap ∧ (∀ a ∈ l, ∃ elems spare D, d = .slice elems spare ∧ D ∈ elems ∧ D = .lit (.string a.data.toList)) ∧ SlAt w (· < w.heap.size) 1 v l.length (l.map Value.string) := by
  obtain ⟨A, cap, l, h1, h2, h3⟩ := open_slR (fun x : ByteArray => [Value.string x]) 1 (by decide) (fun _ => rfl) (fun x D => D = .lit (.string x.data.toList)) ht hC hv h (fun n cs x hl hx => by
    obtain ⟨a, e1, e2, _⟩ := DataW.trod_string he hx
    exact ⟨a, e1.symm, by rw [e2]⟩)
  have e : ∀ l : List ByteArray, l.flatMap (fun x : ByteArray => [Value.string x]) = l.map Value.string := by
    intro l; induction l with
    | nil => rfl
    | cons x l ih => rw [List.flatMap_cons, ih]; rfl
  rw [e] at h3
  exact ⟨A, cap, l, h1, h2, h3⟩
theorem open_strsS {v : Value} {d : DataW H} {p : List MemPlace} {r : Reach} {b0 : Nat} (hv : Value.okWide Tryd.prog w r b0 84 v) (h : DataW.Trod enc Tryd.prog w 0 (fun _ => true) true 84 v d p) :
    ∃ (A : Option Addr) (cap : Nat) (l : List ByteArray), v = .slice A l.length cap ∧ (∀ a ∈ l, ∃ elems spare D, d = .slice elems spare ∧ D ∈ elems ∧ D = .lit (.string a.data.toList)) ∧ SlAt w (· < w.heap.size) 1 v l.length (l.map Value.string) :=
  open_strS Tryd.underlying84 Tryd.underlying9 (by kernel_rfl) hv h
end
end Go.Proofs.YtbepgbkbpkaodaaDoor
