/- Plain: what a put does to slabs and chains. -/
import Derived.Test.YtbmgmjfpoepgpaaDoorPostP
namespace Go.Proofs.YtbmgmjfpoepgpaaDoor
open Go.RowKit

def updT (T : Tails) (j : Nat) (v : Nat × Nat × Nat) : Tails := fun i => if i = j then some v else T i
def updQ (q : Nat → Nat) (c : Nat) : Nat → Nat := fun k => if k = c then q k + 1 else q k
/-- the cells behind a put that took a slab -/
def putMem (μ : List Int) (t a : Nat) (v : Int) : List Int := if t = 0 then μ.set (a + 1) v else (μ.set a (t : Int)).set (a + 1) v

theorem sz_ge {k : Nat} (h : k ≤ 3) : 4 ≤ sz k ∧ sz k ≤ 256 := by rcases k_cases h with rfl | rfl | rfl | rfl <;> decide
theorem set_get_ne {l : List Int} {i j : Nat} {v : Int} (h : j ≠ i) : (l.set i v)[j]? = l[j]? := List.getElem?_set_ne (fun e => h e.symm)
theorem In.succ {P : Pools} {k i x a : Nat} (h : P.In k i x a) (ha : a + 1 < sz k) : P.In k i (x + 1) (a + 1) := ⟨h.1, h.2.1, ha, by have := h.2.2.2; omega⟩

/-- a word behind a tail that isn't its slab's last cell -/
theorem put_mid {P : Pools} (hP : P.ok) {μ : List Int} {q : Nat → Nat} {T : Tails} (h : PostInv P μ q T) {j k i a : Nat} (hT : T j = some (k, i, a)) (ha : a + 1 < sz k) (hlen : P.b 3 + 256 * P.n 3 ≤ μ.length) (v : Int) :
    PostInv P (μ.set (tailOf P (T j) + 1) v) q (updT T j (k, i, a + 1)) ∧ tailOf P (updT T j (k, i, a + 1) j) = tailOf P (T j) + 1 ∧
    (∀ t l, Chain P μ (Used P q T) t l → Chain P (μ.set (tailOf P (T j) + 1) v) (Used P q (updT T j (k, i, a + 1))) t l) ∧
    (∀ l, Chain P μ (Used P q T) (tailOf P (T j)) l → Chain P (μ.set (tailOf P (T j) + 1) v) (Used P q (updT T j (k, i, a + 1))) (tailOf P (T j) + 1) (v :: l)) := by
  obtain ⟨hk, hi, ha1, ha2⟩ := h.slab _ _ _ _ hT
  have hin : P.In k i (tailOf P (T j)) a := by rw [hT]; exact ⟨hk, Nat.lt_of_lt_of_le hi (h.qn k hk), ha2, rfl⟩
  have hin1 := In.succ hin ha
  have hx := in_lt hP hin1
  generalize hxe : tailOf P (T j) = x at *
  have hnu : ¬ Used P q T (x + 1) := by
    rintro ⟨k', i', a', g1, g2, g3⟩
    obtain ⟨rfl, rfl, rfl⟩ := in_uniq hP hin1 g1
    have := g3 j a hT; omega
  have hmono : ∀ y, Used P q T y → Used P q (updT T j (k, i, a + 1)) y := by
    rintro y ⟨k', i', a', g1, g2, g3⟩
    refine ⟨k', i', a', g1, g2, fun j' a2 e => ?_⟩
    unfold updT at e
    split at e
    · rename_i hj
      injection e with e
      obtain ⟨rfl, rfl, rfl⟩ := (by simpa using e : k = k' ∧ i = i' ∧ a + 1 = a2)
      have := g3 j a hT; omega
    · exact g3 j' a2 e
  have hkeep : ∀ y, Used P q T y → (μ.set (x + 1) v)[y]? = μ[y]? := fun y hy => set_get_ne (fun e => hnu (e ▸ hy))
  have hch : ∀ t l, Chain P μ (Used P q T) t l → Chain P (μ.set (x + 1) v) (Used P q (updT T j (k, i, a + 1))) t l := fun t l hc => hc.mono hmono hkeep
  refine ⟨⟨h.qn, ?_, ?_, ?_⟩, ?_, hch, fun l hl => ?_⟩
  · intro j' k' i' a' e
    unfold updT at e
    split at e
    · injection e with e
      obtain ⟨rfl, rfl, rfl⟩ := (by simpa using e : k = k' ∧ i = i' ∧ a + 1 = a')
      exact ⟨hk, hi, by omega, ha⟩
    · exact h.slab _ _ _ _ e
  · intro j1 j2 k' i' a1 a2 e1 e2
    unfold updT at e1 e2
    split at e1 <;> split at e2
    · omega
    · rename_i hj1 hj2
      injection e1 with e1
      obtain ⟨rfl, rfl, rfl⟩ := (by simpa using e1 : k = k' ∧ i = i' ∧ a + 1 = a1)
      exact absurd (h.apart j2 j _ _ _ _ e2 hT) hj2
    · rename_i hj1 hj2
      injection e2 with e2
      obtain ⟨rfl, rfl, rfl⟩ := (by simpa using e2 : k = k' ∧ i = i' ∧ a + 1 = a2)
      exact absurd (h.apart j1 j _ _ _ _ e1 hT) hj1
    · exact h.apart _ _ _ _ _ _ e1 e2
  · intro k' i' y a' g1 g2
    rw [set_get_ne]
    · exact h.zero _ _ _ _ g1 g2
    · rintro rfl
      obtain ⟨rfl, rfl, rfl⟩ := in_uniq hP hin1 g1
      omega
  · unfold updT; rw [if_pos rfl]
    have e9 := hin1.2.2.2
    simp only [tailOf]; omega
  · obtain ⟨a0, rfl⟩ : ∃ a0, a = a0 + 1 := ⟨a - 1, by omega⟩
    refine .mid hin1 ⟨k, i, _, hin1, hi, fun j' a2 e => ?_⟩ ?_ (hch _ _ hl)
    · unfold updT at e
      split at e
      · injection e with e
        have e' := (by simpa using e : a0 + 1 + 1 = a2); omega
      · rename_i hj
        exact absurd (h.apart _ _ _ _ _ _ e hT) hj
    · rw [List.getElem?_set_self (by omega)]

/-- a word that takes a slab of the class c -/
theorem put_slab {P : Pools} (hP : P.ok) {μ : List Int} {q : Nat → Nat} {T : Tails} (h : PostInv P μ q T) (j c : Nat) (hc : c ≤ 3) (hq : q c < P.n c) (hlen : P.b 3 + 256 * P.n 3 ≤ μ.length) (v : Int)
    (hle : tailOf P (T j) ≤ P.b c + sz c * q c) :
    PostInv P (putMem μ (tailOf P (T j)) (P.b c + sz c * q c) v) (updQ q c) (updT T j (c, q c, 1)) ∧ tailOf P (updT T j (c, q c, 1) j) = P.b c + sz c * q c + 1 ∧
    (∀ t l, Chain P μ (Used P q T) t l → Chain P (putMem μ (tailOf P (T j)) (P.b c + sz c * q c) v) (Used P (updQ q c) (updT T j (c, q c, 1))) t l) ∧
    (∀ l, Chain P μ (Used P q T) (tailOf P (T j)) l → Chain P (putMem μ (tailOf P (T j)) (P.b c + sz c * q c) v) (Used P (updQ q c) (updT T j (c, q c, 1))) (P.b c + sz c * q c + 1) (v :: l)) := by
  have hsz := sz_ge hc
  have hin0 : P.In c (q c) (P.b c + sz c * q c) 0 := ⟨hc, hq, by omega, rfl⟩
  have hin1 := In.succ hin0 (by omega)
  have hx := in_lt hP hin1
  generalize hs : P.b c + sz c * q c = s at *
  generalize hte : tailOf P (T j) = t0 at *
  have hget : ∀ y, y ≠ s → y ≠ s + 1 → (putMem μ t0 s v)[y]? = μ[y]? := by
    intro y h1 h2
    unfold putMem
    split
    · exact set_get_ne h2
    · rw [set_get_ne h2, set_get_ne h1]
  have hnu : ∀ y a, P.In c (q c) y a → ¬ Used P q T y := by
    rintro y a g ⟨k', i', a', g1, g2, g3⟩
    obtain ⟨rfl, rfl, rfl⟩ := in_uniq hP g g1
    omega
  have hnT : ∀ j' a', T j' ≠ some (c, q c, a') := fun j' a' e => by have := (h.slab _ _ _ _ e).2.1; omega
  have hmono : ∀ y, Used P q T y → Used P (updQ q c) (updT T j (c, q c, 1)) y := by
    rintro y ⟨k', i', a', g1, g2, g3⟩
    refine ⟨k', i', a', g1, by unfold updQ; split <;> omega, fun j' a2 e => ?_⟩
    unfold updT at e
    split at e
    · injection e with e
      obtain ⟨rfl, rfl, rfl⟩ := (by simpa using e : c = k' ∧ q c = i' ∧ 1 = a2)
      omega
    · exact g3 j' a2 e
  have hkeep : ∀ y, Used P q T y → (putMem μ t0 s v)[y]? = μ[y]? := fun y hy => hget y (fun e => hnu s 0 hin0 (e ▸ hy)) (fun e => hnu (s + 1) 1 hin1 (e ▸ hy))
  have hch : ∀ t l, Chain P μ (Used P q T) t l → Chain P (putMem μ t0 s v) (Used P (updQ q c) (updT T j (c, q c, 1))) t l := fun t l hc' => hc'.mono hmono hkeep
  have huse : ∀ y a, P.In c (q c) y a → a ≤ 1 → Used P (updQ q c) (updT T j (c, q c, 1)) y := by
    intro y a g ga
    refine ⟨c, q c, a, g, by unfold updQ; rw [if_pos rfl]; omega, fun j' a2 e => ?_⟩
    unfold updT at e
    split at e
    · injection e with e
      have e' := (by simpa using e : 1 = a2); omega
    · exact absurd e (hnT j' a2)
  have hmem1 : (putMem μ t0 s v)[s + 1]? = some v := by
    unfold putMem
    split
    · exact List.getElem?_set_self (by omega)
    · exact List.getElem?_set_self (by simp; omega)
  have hmem0 : (putMem μ t0 s v)[s]? = some (t0 : Int) := by
    unfold putMem
    split
    · rename_i h0
      rw [set_get_ne (by omega), h0]
      exact h.zero _ _ _ _ hin0 (Nat.le_refl _)
    · rw [set_get_ne (by omega)]
      exact List.getElem?_set_self (by omega)
  refine ⟨⟨?_, ?_, ?_, ?_⟩, ?_, hch, fun l hl => .first hin1 (huse _ _ hin1 (by omega)) (huse _ _ hin0 (by omega)) hmem1 hmem0 hle (hch _ _ hl)⟩
  · intro k hk
    unfold updQ
    split
    · rename_i e; subst e; omega
    · exact h.qn k hk
  · intro j' k' i' a' e
    unfold updT at e
    split at e
    · injection e with e
      obtain ⟨rfl, rfl, rfl⟩ := (by simpa using e : c = k' ∧ q c = i' ∧ 1 = a')
      exact ⟨hc, by unfold updQ; rw [if_pos rfl]; omega, by omega, by omega⟩
    · obtain ⟨g1, g2, g3, g4⟩ := h.slab _ _ _ _ e
      exact ⟨g1, by unfold updQ; split <;> omega, g3, g4⟩
  · intro j1 j2 k' i' a1 a2 e1 e2
    unfold updT at e1 e2
    split at e1 <;> split at e2
    · omega
    · injection e1 with e1
      obtain ⟨rfl, rfl, rfl⟩ := (by simpa using e1 : c = k' ∧ q c = i' ∧ 1 = a1)
      exact absurd e2 (hnT _ _)
    · injection e2 with e2
      obtain ⟨rfl, rfl, rfl⟩ := (by simpa using e2 : c = k' ∧ q c = i' ∧ 1 = a2)
      exact absurd e1 (hnT _ _)
    · exact h.apart _ _ _ _ _ _ e1 e2
  · intro k' i' y a' g1 g2
    have hne : ∀ b, P.In c (q c) y b → False := by
      intro b g
      obtain ⟨rfl, rfl, -⟩ := in_uniq hP g g1
      unfold updQ at g2
      rw [if_pos rfl] at g2; omega
    rw [hget y (fun e => hne 0 (e ▸ hin0)) (fun e => hne 1 (e ▸ hin1))]
    exact h.zero _ _ _ _ g1 (by unfold updQ at g2; split at g2 <;> omega)
  · unfold updT; rw [if_pos rfl]
    simp only [tailOf]; omega

/-! ### the classes behind a tail -/
theorem next_mid {p : PlanM} {P : Pools} (hP : P.ok) (hl : p.lays P) {k i x a : Nat} (h : P.In k i x a) (h1 : 1 ≤ a) (h2 : a + 1 < sz k) : p.next (x : Int) = (-1, true) := by
  have hc := cls_of hP hl h
  have hx := in_lt hP h
  unfold PlanM.next
  rw [if_neg (by omega), hc]
  have hk := h.1
  have e : ((k : Int)).toNat = k := by omega
  have hz : szK k = (sz k : Int) := by rcases k_cases hk with rfl | rfl | rfl | rfl <;> rfl
  simp only
  rw [if_neg (by omega), e, hz, if_neg (by omega)]
theorem next_end {p : PlanM} {P : Pools} (hP : P.ok) (hl : p.lays P) {k i x a : Nat} (h : P.In k i x a) (h2 : a + 1 = sz k) : p.next (x : Int) = (((min (k + 1) 3 : Nat) : Int), true) := by
  have hc := cls_of hP hl h
  have hx := in_lt hP h
  have hk := h.1
  have hs := sz_ge hk
  unfold PlanM.next
  rw [if_neg (by omega), hc]
  have e : ((k : Int)).toNat = k := by omega
  have hz : szK k = (sz k : Int) := by rcases k_cases hk with rfl | rfl | rfl | rfl <;> rfl
  simp only
  rw [if_neg (by omega), e, hz, if_pos (by omega)]
  congr 1
  split <;> omega
theorem next_zero (p : PlanM) : p.next 0 = (0, true) := by unfold PlanM.next; rw [if_pos rfl]
/-- a tail lies ahead of the slab that is taken behind it -/
theorem tail_le {P : Pools} (hP : P.ok) {q : Nat → Nat} {k i x a : Nat} (h : P.In k i x a) (hq : i < q k) (hn : q k ≤ P.n k) : x ≤ P.b (min (k + 1) 3) + sz (min (k + 1) 3) * q (min (k + 1) 3) := by
  obtain ⟨hk, hi, ha, hx⟩ := h
  obtain ⟨b0, b1, b2, b3, top⟩ := hP
  rcases k_cases hk with rfl | rfl | rfl | rfl <;> simp only [sz] at ha hx <;> simp only [Nat.reduceAdd, Nat.reduceLeDiff, Nat.min_eq_left, Nat.min_eq_right, Nat.min_def, Nat.reduceLT, if_true, if_false, sz] <;> omega

/-! ### the programs at once -/
theorem cls_zero {p : PlanM} {P : Pools} (hP : P.ok) (hl : p.lays P) : (p.cls 0).1 < 0 := by
  apply Classical.byContradiction
  intro h
  obtain ⟨k, i, a, g⟩ := in_of hP hl (x := 0) (by simpa using h)
  have := in_lt hP g; omega
theorem putIn_ideal (μ : List Int) (t : Nat) (v : Int) (h : t + 1 < μ.length) : (putIn t v).ideal μ = some ((), μ.set (t + 1) v, 1) := by
  unfold putIn
  simp only [Tree.ideal]
  rw [if_pos (by omega)]
  have e : ((t : Int) + 1).toNat = t + 1 := by omega
  rw [e]; rfl
theorem putNew_ideal (μ : List Int) (t a : Nat) (v : Int) (h : a + 1 < μ.length) : ∃ n, n ≤ 2 ∧ (putNew t a v).ideal μ = some ((), putMem μ t a v, n) := by
  have e : ((a : Int) + 1).toNat = a + 1 := by omega
  have e2 : ((a : Int)).toNat = a := by omega
  unfold putNew putMem
  by_cases h0 : t = 0
  · subst h0
    refine ⟨1, by omega, ?_⟩
    rw [if_pos (show ((0 : Nat) : Int) = 0 from rfl), if_pos rfl]
    simp only [Tree.ideal]
    rw [if_pos (by omega), e]; rfl
  · refine ⟨2, by omega, ?_⟩
    rw [if_neg (by omega), if_neg h0]
    simp only [Tree.ideal]
    rw [if_pos (by omega), e2, if_pos (by rw [List.length_set]; omega), e]; rfl
theorem getD_of {l : List Int} {i : Nat} {v : Int} (h : l[i]? = some v) : l.getD i 0 = v := by rw [List.getD_eq_getElem?_getD, h]; rfl
/-- a walk from a tail reads the words up to it -/
theorem walk_ideal {p : PlanM} {P : Pools} (hP : P.ok) (hl : p.lays P) {μ : List Int} {A : Nat → Prop} {t : Nat} {ws : List Int} (h : Chain P μ A t ws) :
    ∀ (n : Nat) (acc : List Int), ws.length ≤ n → ∃ c, c ≤ 2 * ws.length ∧ (walkT p n (t : Int) acc).ideal μ = some (acc ++ ws, μ, c) := by
  induction h with
  | nil =>
    intro n acc _
    refine ⟨0, by simp, ?_⟩
    cases n with
    | zero => simp [walkT, Tree.ideal]
    | succ n =>
      unfold walkT
      rw [if_pos (Or.inl (by simpa using cls_zero hP hl))]
      simp [Tree.ideal]
  | mid h1 h2 h3 h4 ih =>
    rename_i k i x a v l
    intro n acc hn
    obtain ⟨n, rfl⟩ : ∃ m, n = m + 1 := ⟨n - 1, by simp at hn; omega⟩
    obtain ⟨c, hc, he⟩ := ih n (acc ++ [v]) (by simpa using hn)
    have hcl := cls_of hP hl h1
    have hlt := (List.getElem?_eq_some_iff.1 h3).1
    refine ⟨c + 1, by simp; omega, ?_⟩
    unfold walkT
    rw [hcl]
    simp only
    rw [if_neg (by omega)]
    simp only [Tree.ideal]
    have e1 : ((x + 1 : Nat) : Int).toNat = x + 1 := by omega
    have e2 : ((x + 1 : Nat) : Int) - 1 = (x : Int) := by omega
    rw [if_pos (by omega), e1, getD_of h3]
    simp only [Bool.false_eq_true, if_false]
    rw [if_neg (by omega), e2, he]
    simp
  | first h1 h2 h3 h4 h5 h6 h7 ih =>
    rename_i k i x y v l
    intro n acc hn
    obtain ⟨n, rfl⟩ : ∃ m, n = m + 1 := ⟨n - 1, by simp at hn; omega⟩
    obtain ⟨c, hc, he⟩ := ih n (acc ++ [v]) (by simpa using hn)
    have hcl := cls_of hP hl h1
    have hlt := (List.getElem?_eq_some_iff.1 h4).1
    refine ⟨c + 2, by simp; omega, ?_⟩
    unfold walkT
    rw [hcl]
    simp only
    rw [if_neg (by omega)]
    simp only [Tree.ideal]
    have e1 : ((x + 1 : Nat) : Int).toNat = x + 1 := by omega
    have e2 : (((x + 1 : Nat) : Int) - 1).toNat = x := by omega
    have e3 : ((1 : Nat) : Int) = 1 := rfl
    rw [if_pos (by omega), e1, getD_of h4]
    simp only [Bool.false_eq_true, if_false, e3, if_true, Tree.ideal]
    rw [if_pos (by omega), e2, getD_of h5, he]
    simp
end Go.Proofs.YtbmgmjfpoepgpaaDoor
