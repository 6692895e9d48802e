/- A query that came in: its tree, as far as it goes; what its parts are in their types' ranges. -/
import Derived.Test.YtbepgbkbpkaodaaDoorJOpenC
import Derived.Test.YtbepgbkbpkaodaaDoorShowA
namespace Go.Proofs.YtbepgbkbpkaodaaDoor
open Go.RowKit Go.ChangeShapes Go.WideShapes Go.Deep

set_option maxRecDepth 100000
section
variable {H : Type} {enc : TypeId × Value → H} {w : World}
theorem weightsAll_mem2 {P : Program} {e : TypeId} : ∀ {l : List (DataW H)} {d : DataW H}, d ∈ l → ∀ n ∈ d.weights P e, n ∈ DataW.weightsAll P e l
  | d' :: r, d, hd, n, hn => by
    simp only [DataW.weightsAll, List.mem_append]
    rcases List.mem_cons.1 hd with rfl | h
    · exact Or.inl hn
    · exact Or.inr (weightsAll_mem2 h n hn)
theorem open_slW {α : Type} (f : α → List Value) (size : Nat) (hs : 0 < size) (hf : ∀ x, (f x).length = size) (Q : α → DataW H → Prop) {t e : TypeId} {cs0 : List Value} {x0 : DataW H × List MemPlace} {fuel : Nat}
    (ht : Tryd.prog.underlying t = some (.slice e)) (hC : Tryd.prog.cellsOf e = size)
    (h : DataW.trod enc Tryd.prog w 0 (fun _ => true) true fuel t cs0 = some x0)
    (hrd : ∀ (n : Nat) (cs : List Value) (x : DataW H × List MemPlace), SizeOf.sizeOf x.1 < SizeOf.sizeOf x0.1 → cs.length = size → DataW.trod enc Tryd.prog w 0 (fun _ => true) true n e cs = some x → ∃ a : α, f a = cs ∧ Q a x.1) :
    ∃ (A : Option Addr) (cap : Nat) (l : List α), cs0 = [.slice A l.length cap] ∧ (∀ a ∈ l, ∃ D, Q a D ∧ ∀ n ∈ D.weights Tryd.prog e, n ∈ x0.1.weights Tryd.prog t) ∧ (l ≠ [] → ∃ n, l.length ≤ n ∧ n * Tryd.prog.bytesOf e ∈ x0.1.weights Tryd.prog t) ∧ SlAt w (· < w.heap.size) size (.slice A l.length cap) l.length (l.flatMap f) := by
  rcases open_slice ht h with ⟨h0, _⟩ | ⟨a, len, cap, m, n, D, Pl, hcs, hb, hl, hm, hmm, hx, hi⟩
  · exact ⟨none, 0, [], h0, fun a ha => (by cases ha), fun h => absurd rfl h, none, 0, rfl, Nat.le_refl _, Nat.zero_le _, by simp, fun hn => absurd hn (by simp)⟩
  · simp only [if_true] at hmm
    subst hmm
    have hx1 : x0.1 = .slice ((List.range len).map D) ((List.range (m - len)).map fun j => D (len + j)) := by rw [hx]
    have hmem : ∀ i, i < len → D i ∈ (List.range len).map D := fun i hi => List.mem_map.2 ⟨i, List.mem_range.2 hi, rfl⟩
    have hwt : x0.1.weights Tryd.prog t = (((List.range len).map D).length + ((List.range (m - len)).map fun j => D (len + j)).length) * Tryd.prog.bytesOf e :: (DataW.weightsAll Tryd.prog e ((List.range len).map D) ++ DataW.weightsAll Tryd.prog e ((List.range (m - len)).map fun j => D (len + j))) := by
      rw [hx1]
      unfold DataW.weights
      rw [ht]
    obtain ⟨l, hl1, hl2⟩ := list_of (Q := fun i x => Q x (D i) ∧ ∀ j u, (f x)[j]? = some u → w.cell? ((a.add (i * size)).add j) = some u) len (fun i hi' => by
      obtain ⟨cs', hc, ht'⟩ := hi i (by omega)
      rw [hC] at hc
      obtain ⟨_, hcl, hat⟩ := World.cells?_some hc
      obtain ⟨x, hx1, hx2⟩ := hrd n cs' _ (by
        show SizeOf.sizeOf (D i) < _
        have := List.sizeOf_lt_of_mem (hmem i hi')
        rw [hx1]
        simp only [DataW.slice.sizeOf_spec]
        omega) hcl ht'
      refine ⟨x, hx2, fun j u hj => ?_⟩
      rw [hx1] at hj
      have hjl : j < size := by rw [← hcl]; exact (List.getElem?_eq_some_iff.1 hj).1
      rw [hat j hjl, hj])
    refine ⟨some a, m, l, by rw [hcs, hl1], fun x hx' => ?_, fun _ => ⟨len + (m - len), by omega, ?_⟩, some a, m, by rw [hl1], by rw [hl1]; exact hl, hm, flat_len f size hf l, fun hn => ?_⟩
    · obtain ⟨i, hi', rfl⟩ := List.getElem_of_mem hx'
      refine ⟨D i, (hl2 i _ (List.getElem?_eq_getElem hi')).1, fun n hn => ?_⟩
      rw [hwt]
      exact List.mem_cons_of_mem _ (List.mem_append_left _ (weightsAll_mem2 (hmem i (by omega)) n hn))
    · rw [hwt, List.length_map, List.length_map, List.length_range, List.length_range]
      exact List.mem_cons_self ..
    · obtain ⟨x0, hx0⟩ : ∃ x, l[0]? = some x := ⟨_, List.getElem?_eq_getElem hn⟩
      have hsp0 := (hl2 0 x0 hx0).2 0 ((f x0)[0]'(by rw [hf]; exact hs)) (List.getElem?_eq_getElem _)
      have hadd : ∀ (a : Addr) (i j : Nat), (a.add i).add j = a.add (i + j) := fun a i j => by
        unfold Addr.add
        by_cases hi : i = 0 <;> by_cases hj : j = 0 <;> simp [hi, hj, Nat.add_assoc]
      rw [hadd] at hsp0
      have hspot := World.cell?_spot hsp0
      obtain ⟨b, off, spot⟩ := a
      have hspot : spot = none := by simpa [Addr.add] using hspot
      subst hspot
      refine ⟨b, off, rfl, ?_, fun j u hj => ?_⟩
      · have := World.block_lt_of_cell? _ _ hsp0
        simpa [Addr.add] using this
      · obtain ⟨x, hx1, hx2⟩ := flat_get f size hs hf l j u hj
        have := (hl2 _ x hx1).2 _ u hx2
        rw [hadd, Nat.div_add_mod' j size] at this
        rw [← this]
        simp [Addr.add]
        try (by_cases hj0 : j = 0 <;> simp [hj0])
theorem Tryd.cellsTok : Tryd.prog.cellsOf 42 = 3 := by kernel_rfl
theorem Tryd.cellsNode : Tryd.prog.cellsOf 26 = 4 := by kernel_rfl
theorem Tryd.cellsQuery : Tryd.prog.cellsOf 28 = 6 := by kernel_rfl
theorem Tryd.bytesTok : 1 ≤ Tryd.prog.bytesOf 42 := of_decide_eq_true (by kernel_rfl)
theorem Tryd.bytesNode : 1 ≤ Tryd.prog.bytesOf 26 := of_decide_eq_true (by kernel_rfl)
def BigW : Nat := 140737488355328
theorem wf_u8 {a : Int} (h : (Lit.int .u8 a).wf = true) : 0 ≤ a ∧ a ≤ 255 := bounds_u8 h
theorem wf_i64 {a : Int} (h : (Lit.int .i64 a).wf = true) : -9223372036854775808 ≤ a ∧ a ≤ 9223372036854775807 := bounds_i64 h
theorem read_tok (n : Nat) (cs : List Value) (x : DataW H × List MemPlace) (hl : cs.length = 3)
    (h : DataW.trod enc Tryd.prog w 0 (fun _ => true) true n 42 cs = some x) : ∃ a : Int × ByteArray × Int, tokG a = cs ∧ ((∀ m ∈ x.1.weights Tryd.prog 42, m ≤ BigW) → (0 ≤ a.1 ∧ a.1 ≤ 255) ∧ a.2.1.size ≤ BigW ∧ (-9223372036854775808 ≤ a.2.2 ∧ a.2.2 ≤ 9223372036854775807)) := by
  obtain ⟨xs, n', _, hx, _, hlen, hf⟩ := DataW.trod_struct Tryd.underlying42 h
  match xs, hlen with
  | [y0, y1, y2], _ =>
  match cs, hl with
  | [b0, b1, b2], _ =>
    have f0 := hf 0 _ rfl
    have f1 := hf 1 _ rfl
    have f2 := hf 2 _ rfl
    have f0 : DataW.trod enc Tryd.prog w 0 (fun _ => true) true n' 5 [b0] = some y0 := f0
    have f1 : DataW.trod enc Tryd.prog w 0 (fun _ => true) true n' 9 [b1] = some y1 := f1
    have f2 : DataW.trod enc Tryd.prog w 0 (fun _ => true) true n' 3 [b2] = some y2 := f2
    obtain ⟨a0, e0, _, w0⟩ := DataW.trod_int Tryd.underlying5 f0
    obtain ⟨a1, e1, e1', _⟩ := DataW.trod_string Tryd.underlying9 f1
    obtain ⟨a2, e2, _, w2⟩ := DataW.trod_int Tryd.underlying3 f2
    injection e0 with e0
    injection e1 with e1
    injection e2 with e2
    subst e0 e1 e2
    refine ⟨(a0, a1, a2), rfl, fun hw => ⟨wf_u8 w0, hw a1.size ?_, wf_i64 w2⟩⟩
    rw [hx, e1']
    unfold DataW.weights
    rw [Tryd.underlying42]
    show a1.size ∈ DataW.weightsEach Tryd.prog [5, 9, 3] [y0.1, .lit (.string a1.data.toList), y2.1]
    simp only [DataW.weightsEach, List.mem_append]
    refine Or.inr (Or.inl ?_)
    unfold DataW.weights
    rw [List.mem_singleton]
    exact (Array.length_toList).symm

structure NdC where
  nd : Nd
  cs : List Value
  h : cs.length = 4
theorem read_node : ∀ (N n : Nat) (cs : List Value) (x : DataW H × List MemPlace), SizeOf.sizeOf x.1 ≤ N → cs.length = 4 → DataW.trod enc Tryd.prog w 0 (fun _ => true) true n 26 cs = some x →
    ∃ nd : Nd, NodeV w (· < w.heap.size) nd cs ∧ ((∀ m ∈ x.1.weights Tryd.prog 26, m ≤ BigW) → NdOk nd) := by
  intro N
  induction N with
  | zero =>
    intro n cs x hN
    exfalso
    obtain ⟨x, y⟩ := x
    cases x <;> simp at hN
  | succ N ih =>
    intro n cs x hN hl h
    obtain ⟨xs, n', _, hx, _, hlen, hf⟩ := DataW.trod_struct Tryd.underlying26 h
    match xs, hlen with
    | [y0, y1, y2, y3], _ =>
    match cs, hl with
    | [b0, b1, b2, b3], _ =>
      have f0 : DataW.trod enc Tryd.prog w 0 (fun _ => true) true n' 3 [b0] = some y0 := hf 0 _ rfl
      have f1 : DataW.trod enc Tryd.prog w 0 (fun _ => true) true n' 5 [b1] = some y1 := hf 1 _ rfl
      have f2 : DataW.trod enc Tryd.prog w 0 (fun _ => true) true n' 23 [b2] = some y2 := hf 2 _ rfl
      have f3 : DataW.trod enc Tryd.prog w 0 (fun _ => true) true n' 24 [b3] = some y3 := hf 3 _ rfl
      obtain ⟨a0, e0, _, w0⟩ := DataW.trod_int Tryd.underlying3 f0
      obtain ⟨a1, e1, _, w1⟩ := DataW.trod_int Tryd.underlying5 f1
      obtain ⟨A2, c2, l2, e2, q2, z2, s2⟩ := open_slW tokG 3 (by decide) (fun _ => rfl) (fun a D => (∀ m ∈ D.weights Tryd.prog 42, m ≤ BigW) → (0 ≤ a.1 ∧ a.1 ≤ 255) ∧ a.2.1.size ≤ BigW ∧ (-9223372036854775808 ≤ a.2.2 ∧ a.2.2 ≤ 9223372036854775807)) Tryd.underlying23 Tryd.cellsTok f2 (fun n cs x _ hl hx => read_tok n cs x hl hx)
      have hsz : SizeOf.sizeOf y3.1 ≤ N := by
        rw [hx] at hN
        simp only [List.map_cons, List.map_nil, DataW.agg.sizeOf_spec, List.cons.sizeOf_spec, List.nil.sizeOf_spec] at hN
        omega
      obtain ⟨A3, c3, l3, e3, q3, z3, s3⟩ := open_slW NdC.cs 4 (by decide) NdC.h (fun a D => NodeV w (· < w.heap.size) a.nd a.cs ∧ ((∀ m ∈ D.weights Tryd.prog 26, m ≤ BigW) → NdOk a.nd)) Tryd.underlying24 Tryd.cellsNode f3 (fun n cs x hs hl hx => by
        obtain ⟨nd, h1, h2⟩ := ih n cs x (by omega) hl hx
        exact ⟨⟨nd, cs, hl⟩, rfl, h1, h2⟩)
      injection e0 with e0
      injection e1 with e1
      injection e2 with e2
      injection e3 with e3
      subst e0 e1 e2 e3
      have hw : x.1.weights Tryd.prog 26 = y0.1.weights Tryd.prog 3 ++ (y1.1.weights Tryd.prog 5 ++ (y2.1.weights Tryd.prog 23 ++ (y3.1.weights Tryd.prog 24 ++ []))) := by
        rw [hx]
        conv => lhs; unfold DataW.weights
        rw [Tryd.underlying26]
        show DataW.weightsEach Tryd.prog [3, 5, 23, 24] [y0.1, y1.1, y2.1, y3.1] = _
        simp only [DataW.weightsEach]
      refine ⟨.mk a0 a1 l2 (l3.map NdC.nd), ?_, fun hb => ?_⟩
      · have hm : (l3.map NdC.nd).length = l3.length := List.length_map ..
        refine NodeV.mk a0 a1 l2 (l3.map NdC.nd) (l3.map NdC.cs) _ _ s2 ?_ (by rw [List.length_map, List.length_map]) (fun i n cs h1 h2 => ?_)
        · rw [hm, ← List.flatMap_def]
          exact s3
        · rw [List.getElem?_map, Option.map_eq_some_iff] at h1 h2
          obtain ⟨u, h1, rfl⟩ := h1
          obtain ⟨v, h2, rfl⟩ := h2
          rw [h1] at h2
          injection h2 with h2
          subst h2
          exact (q3 u (List.mem_of_getElem? h1)).elim fun D h => h.1.1
      · rw [hw] at hb
        have hb2 : ∀ m ∈ y2.1.weights Tryd.prog 23, m ≤ BigW := fun m hm => hb m (by simp only [List.mem_append]; exact Or.inr (Or.inr (Or.inl hm)))
        have hb3 : ∀ m ∈ y3.1.weights Tryd.prog 24, m ≤ BigW := fun m hm => hb m (by simp only [List.mem_append]; exact Or.inr (Or.inr (Or.inr (Or.inl hm))))
        have hln : ∀ {α : Type} (l : List α) (b : Nat) (L : List Nat), 1 ≤ b → (l ≠ [] → ∃ n, l.length ≤ n ∧ n * b ∈ L) → (∀ m ∈ L, m ≤ BigW) → l.length ≤ BigW := fun l b L hb1 h1 h2 => by
          by_cases h : l = []
          · rw [h]; exact Nat.zero_le _
          · obtain ⟨n, h3, h4⟩ := h1 h
            have := h2 _ h4
            have := Nat.le_mul_of_pos_right n hb1
            omega
        refine NdOk.mk a0 a1 l2 (l3.map NdC.nd) (wf_i64 w0) (wf_u8 w1) (fun t ht => ?_) ⟨hln l2 _ _ Tryd.bytesTok z2 hb2, by rw [List.length_map]; exact hln l3 _ _ Tryd.bytesNode z3 hb3⟩ (fun n hn => ?_)
        · obtain ⟨D, h1, h2⟩ := q2 t ht
          exact h1 fun m hm => hb2 m (h2 m hm)
        · obtain ⟨u, hu, rfl⟩ := List.mem_map.1 hn
          obtain ⟨D, h1, h2⟩ := q3 u hu
          exact h1.2 fun m hm => hb3 m (h2 m hm)

theorem open_query {v : Value} {d : DataW H} {p : List MemPlace} {r : Reach} {b0 : Nat} (hv : Value.okWide Tryd.prog w r b0 28 v)
    (h : DataW.Trod enc Tryd.prog w 0 (fun _ => true) true 28 v d p) :
    ∃ (nd : Nd) (k f : Int) (A1 A2 : Option Addr) (n1 c1 n2 c2 : Nat) (li o : Int), v = .agg #[.int .i64 k, .int .u8 f, .slice A1 n1 c1, .slice A2 n2 c2, .int .i64 li, .int .i64 o] ∧ NodeV w (· < w.heap.size) nd [.int .i64 k, .int .u8 f, .slice A1 n1 c1, .slice A2 n2 c2] ∧ (-9223372036854775808 ≤ li ∧ li ≤ 9223372036854775807) ∧ ((∀ m ∈ d.weights Tryd.prog 28, m ≤ BigW) → NdOk nd) := by
  obtain ⟨cs, rfl, hsz⟩ := okWide_struct Tryd.underlying28 hv
  rw [Tryd.cellsQuery] at hsz
  obtain ⟨fuel, h⟩ := h
  obtain ⟨xs, n', _, hx, _, hlen, hf⟩ := DataW.trod_struct Tryd.underlying28 h
  obtain ⟨cs⟩ := cs
  match xs, hlen with
  | [y0, y1, y2], _ =>
  match cs, hsz with
  | [b0, b1, b2, b3, b4, b5], _ =>
    have f0 : DataW.trod enc Tryd.prog w 0 (fun _ => true) true n' 26 [b0, b1, b2, b3] = some y0 := hf 0 _ rfl
    have f1 : DataW.trod enc Tryd.prog w 0 (fun _ => true) true n' 3 [b4] = some y1 := hf 1 _ rfl
    have f2 : DataW.trod enc Tryd.prog w 0 (fun _ => true) true n' 3 [b5] = some y2 := hf 2 _ rfl
    obtain ⟨a1, e1, _, w1⟩ := DataW.trod_int Tryd.underlying3 f1
    obtain ⟨a2, e2, _, w2⟩ := DataW.trod_int Tryd.underlying3 f2
    obtain ⟨nd, g1, g2⟩ := read_node _ n' _ y0 (Nat.le_refl _) rfl f0
    obtain ⟨k, f, A1, n1, c1, A2, n2, c2, e⟩ := g1.form
    injection e1 with e1
    injection e2 with e2
    simp only [List.cons.injEq, and_true] at e
    obtain ⟨rfl, rfl, rfl, rfl⟩ := e
    subst e1 e2
    refine ⟨nd, k, f, A1, A2, n1, c1, n2, c2, a1, a2, rfl, g1, wf_i64 w1, fun hb => g2 fun m hm => hb m ?_⟩
    injection hx with hx _
    rw [hx]
    conv => arg 1; unfold DataW.weights
    rw [Tryd.underlying28]
    show m ∈ DataW.weightsEach Tryd.prog [26, 3, 3] [y0.1, y1.1, y2.1]
    simp only [DataW.weightsEach, List.mem_append]
    exact Or.inl hm
end
end Go.Proofs.YtbepgbkbpkaodaaDoor
