/- Plain: sorting numbers by their keys, stably: orders, blocks, merges. -/
import Derived.Test.YtbmgmjfpoepgpaaTree
namespace Go.Proofs.Ytbmgmjfpoepgpaa

variable {key : Nat → Int}

/-- i stands ahead of j -/
def Lt (key : Nat → Int) (i j : Nat) : Prop := key i < key j ∨ (key i = key j ∧ i < j)
instance (key : Nat → Int) (i j : Nat) : Decidable (Lt key i j) := by unfold Lt; infer_instance
theorem Lt.trans {i j k : Nat} (h : Lt key i j) (g : Lt key j k) : Lt key i k := by unfold Lt at *; omega
theorem Lt.irrefl {i : Nat} : ¬ Lt key i i := by unfold Lt; omega
theorem Lt.asymm {i j : Nat} (h : Lt key i j) : ¬ Lt key j i := by unfold Lt at *; omega
theorem Lt.total {i j : Nat} (h : ¬ Lt key i j) (hne : i ≠ j) : Lt key j i := by unfold Lt at *; omega

/-- what the comparison answers -/
def cmpv (key : Nat → Int) (i j : Nat) : Int := if key i < key j then -1 else if key j < key i then 1 else 0
theorem cmpv_lt {i j : Nat} (h : j < i) : cmpv key i j < 0 ↔ Lt key i j := by
  unfold cmpv Lt
  split <;> (try split) <;> omega

theorem sorted_unique : ∀ {l l' : List Nat}, l.Perm l' → l.Pairwise (Lt key) → l'.Pairwise (Lt key) → l = l'
  | [], l', h, _, _ => (List.nil_perm.1 h).symm
  | x :: l, [], h, _, _ => by simpa using h.length_eq
  | x :: l, y :: l', h, h1, h2 => by
    have hx : x = y := by
      apply Classical.byContradiction
      intro hne
      have m1 : x ∈ y :: l' := h.subset (List.mem_cons_self ..)
      have m2 : y ∈ x :: l := h.symm.subset (List.mem_cons_self ..)
      have a1 : x ∈ l' := by rcases List.mem_cons.1 m1 with e | e; exact absurd e hne; exact e
      have a2 : y ∈ l := by rcases List.mem_cons.1 m2 with e | e; exact absurd e.symm hne; exact e
      exact ((List.pairwise_cons.1 h1).1 y a2).asymm ((List.pairwise_cons.1 h2).1 x a1)
    subst hx
    rw [sorted_unique (List.perm_cons x |>.1 h) (List.pairwise_cons.1 h1).2 (List.pairwise_cons.1 h2).2]

/-- x is put where it stands -/
def insS (key : Nat → Int) (x : Nat) : List Nat → List Nat
  | [] => [x]
  | y :: l => if Lt key y x then y :: insS key x l else x :: y :: l
theorem insS_perm (x : Nat) (l : List Nat) : (insS key x l).Perm (x :: l) := by
  induction l with
  | nil => exact List.Perm.refl _
  | cons y l ih =>
    unfold insS
    split
    · exact (List.Perm.cons y ih).trans (List.Perm.swap ..)
    · exact List.Perm.refl _
theorem insS_sorted {x : Nat} {l : List Nat} (h : l.Pairwise (Lt key)) (hx : x ∉ l) : (insS key x l).Pairwise (Lt key) := by
  induction l with
  | nil => simp [insS]
  | cons y l ih =>
    obtain ⟨h1, h2⟩ := List.pairwise_cons.1 h
    simp only [List.mem_cons, not_or] at hx
    unfold insS
    split
    · rename_i hlt
      refine List.pairwise_cons.2 ⟨fun z hz => ?_, ih h2 hx.2⟩
      rcases List.mem_cons.1 ((insS_perm x l).subset hz) with e | e
      · rw [e]; exact hlt
      · exact h1 z e
    · rename_i hlt
      have hxy := Lt.total hlt (fun e => hx.1 e.symm)
      refine List.pairwise_cons.2 ⟨fun z hz => ?_, h⟩
      rcases List.mem_cons.1 hz with e | e
      · rw [e]; exact hxy
      · exact hxy.trans (h1 z e)

/-- the numbers a, a+1, .. of which there are n, sorted -/
def srtN (key : Nat → Int) (a : Nat) : Nat → List Nat
  | 0 => []
  | n + 1 => insS key (a + n) (srtN key a n)
theorem range'_succ' (a n : Nat) : List.range' a (n + 1) = List.range' a n ++ [a + n] := by
  rw [List.range'_concat, Nat.one_mul]
theorem srtN_perm (a n : Nat) : (srtN key a n).Perm (List.range' a n) := by
  induction n with
  | zero => exact List.Perm.refl _
  | succ n ih =>
    rw [range'_succ']
    refine (insS_perm _ _).trans ((List.Perm.cons _ ih).trans ?_)
    exact (List.perm_append_comm (l₁ := [a + n]))
theorem srtN_sorted (a n : Nat) : (srtN key a n).Pairwise (Lt key) := by
  induction n with
  | zero => exact List.Pairwise.nil
  | succ n ih =>
    refine insS_sorted ih fun hm => ?_
    have := (srtN_perm a n).subset hm
    rw [List.mem_range'_1] at this
    omega
/-- of the numbers from a to b -/
def srt (key : Nat → Int) (a b : Nat) : List Nat := srtN key a (b - a)
theorem srt_unique {a b : Nat} {l : List Nat} (h : l.Perm (List.range' a (b - a))) (hs : l.Pairwise (Lt key)) : l = srt key a b :=
  sorted_unique (h.trans (srtN_perm a (b - a)).symm) hs (srtN_sorted a (b - a))
theorem srt_length (a b : Nat) : (srt key a b).length = b - a := by
  rw [srt, (srtN_perm a (b - a)).length_eq, List.length_range']
theorem mem_srt {a b x : Nat} : x ∈ srt key a b ↔ a ≤ x ∧ x < b := by
  rw [srt, (srtN_perm a (b - a)).mem_iff, List.mem_range'_1]; omega
theorem srt_sorted (a b : Nat) : (srt key a b).Pairwise (Lt key) := srtN_sorted a (b - a)
theorem srt_perm (a b : Nat) : (srt key a b).Perm (List.range' a (b - a)) := srtN_perm a (b - a)
theorem srt_nil {a b : Nat} (h : b ≤ a) : srt key a b = [] := by
  have : b - a = 0 := by omega
  rw [srt, this]; rfl
theorem srt_succ {a b : Nat} (h : a ≤ b) : srt key a (b + 1) = insS key b (srt key a b) := by
  have : b + 1 - a = (b - a) + 1 := by omega
  rw [srt, this, srtN]
  have e : a + (b - a) = b := by omega
  rw [e]; rfl
theorem srt_one (a : Nat) : srt key a (a + 1) = [a] := by rw [srt_succ (Nat.le_refl _), srt_nil (Nat.le_refl _)]; rfl

/-- two sorted rows that follow each other, as one -/
theorem srt_merge {a m b : Nat} {Y : List Nat} (h1 : a ≤ m) (h2 : m ≤ b) (hp : Y.Perm (srt key a m ++ srt key m b)) (hs : Y.Pairwise (Lt key)) : Y = srt key a b := by
  refine srt_unique (hp.trans ?_) hs
  have e : b - a = (m - a) + (b - m) := by omega
  rw [e]
  have := List.range'_append_1 (s := a) (m := m - a) (n := b - m)
  rw [← this]
  have e2 : a + (m - a) = m := by omega
  rw [e2]
  exact (srt_perm a m).append (srt_perm m b)

/-- blocks of B, from a on -/
inductive Blocks (key : Nat → Int) (B : Nat) (n : Nat) : Nat → List Nat → Prop
  | last {a : Nat} : a ≤ n → n ≤ a + B → Blocks key B n a (srt key a n)
  | cons {a : Nat} {l : List Nat} : a + B ≤ n → Blocks key B n (a + B) l → Blocks key B n a (srt key a (a + B) ++ l)
inductive Pre (key : Nat → Int) (B : Nat) : Nat → List Nat → Prop
  | nil : Pre key B 0 []
  | snoc {a : Nat} {l : List Nat} : Pre key B a l → Pre key B (a + B) (l ++ srt key a (a + B))
theorem Pre.length {B a : Nat} {l : List Nat} (h : Pre key B a l) : l.length = a := by
  induction h with
  | nil => rfl
  | snoc h ih => rw [List.length_append, ih, srt_length]; omega
theorem Pre.blocks {B n a : Nat} {D : List Nat} (h : Pre key B a D) : ∀ {l : List Nat}, a ≤ n → Blocks key B n a l → Blocks key B n 0 (D ++ l) := by
  induction h with
  | nil => intro l _ h; exact h
  | snoc h ih =>
    intro l ha h
    rw [List.append_assoc]
    exact ih (by omega) (.cons ha h)
/-- two blocks at the place -/
theorem Blocks.two {B n a : Nat} {l : List Nat} (h : Blocks key B n a l) (hB : 0 < B) (h2 : a + 2 * B ≤ n) : ∃ t, l = srt key a (a + B) ++ srt key (a + B) (a + 2 * B) ++ t ∧ Blocks key B n (a + 2 * B) t := by
  cases h with
  | last h1 h3 => omega
  | cons h1 h3 =>
    cases h3 with
    | last h4 h5 =>
      have e : n = a + 2 * B := by omega
      subst e
      refine ⟨[], by simp, ?_⟩
      have := Blocks.last (key := key) (B := B) (n := a + 2 * B) (Nat.le_refl (a + 2 * B)) (by omega)
      rwa [srt_nil (Nat.le_refl _)] at this
    | cons h4 h5 =>
      rename_i t
      have e : a + B + B = a + 2 * B := by omega
      rw [e] at h5
      exact ⟨t, by rw [e, List.append_assoc], h5⟩
/-- one and a rest -/
theorem Blocks.rest {B n a : Nat} {l : List Nat} (h : Blocks key B n a l) (h1 : a + B < n) (h2 : n < a + 2 * B) : l = srt key a (a + B) ++ srt key (a + B) n := by
  cases h with
  | last h3 h4 => omega
  | cons h3 h4 =>
    cases h4 with
    | last h5 h6 => rfl
    | cons h5 h6 => omega
theorem Blocks.one {B n a : Nat} {l : List Nat} (h : Blocks key B n a l) (hB : 0 < B) (h2 : n ≤ a + B) : l = srt key a n := by
  cases h with
  | last h3 h4 => rfl
  | cons h3 h4 =>
    have e : n = a + B := by omega
    subst e
    cases h4 with
    | last h5 h6 => rw [srt_nil (Nat.le_refl (a + B))]; simp
    | cons h5 h6 => omega
theorem Blocks.le {B n a : Nat} {l : List Nat} (h : Blocks key B n a l) : a ≤ n := by
  cases h with
  | last h3 h4 => exact h3
  | cons h3 h4 => omega
theorem Blocks.length {B n a : Nat} {l : List Nat} (h : Blocks key B n a l) : l.length = n - a := by
  induction h with
  | last h3 h4 => exact srt_length ..
  | cons h3 h4 ih => rw [List.length_append, srt_length, ih]; omega

/-! ### the reference's insertion -/
theorem insS_at (x : Nat) (l : List Nat) (k : Nat) (hk : k ≤ l.length) (h1 : ∀ j (h : j < k), Lt key (l[j]'(by omega)) x) (h2 : ∀ (h : k < l.length), ¬ Lt key (l[k]'h) x) :
    insS key x l = l.take k ++ x :: l.drop k := by
  induction k generalizing l with
  | zero =>
    cases l with
    | nil => rfl
    | cons y l => unfold insS; rw [if_neg (by have := h2 (by simp); exact this)]; rfl
  | succ k ih =>
    cases l with
    | nil => simp at hk
    | cons y l =>
      unfold insS
      rw [if_pos (by simpa using h1 0 (by omega))]
      simp only [List.take_succ_cons, List.drop_succ_cons, List.cons_append]
      rw [ih l (by simpa using hk) (fun j hj => h1 (j + 1) (by omega)) (fun h => h2 (by simpa using h))]

/-! ### what the merge is told -/
/-- a sorted row with x put in is sorted -/
theorem put_sorted {x : Nat} {A B : List Nat} (h : (A ++ B).Pairwise (Lt key)) (h1 : ∀ y ∈ A, Lt key y x) (h2 : ∀ y ∈ B, Lt key x y) : (A ++ x :: B).Pairwise (Lt key) := by
  rw [List.pairwise_append] at h ⊢
  refine ⟨h.1, List.pairwise_cons.2 ⟨h2, h.2.1⟩, fun a ha b hb => ?_⟩
  rcases List.mem_cons.1 hb with e | e
  · rw [e]; exact h1 a ha
  · exact h.2.2 a ha b e
theorem put_perm (x : Nat) (A B : List Nat) : (A ++ x :: B).Perm (x :: (A ++ B)) := List.perm_middle
/-- the merge's end -/
theorem merge_sorted {L1 L2 R1 R2 Y1 Y2 : List Nat} (hL : (L1 ++ L2).Pairwise (Lt key)) (hR : (R1 ++ R2).Pairwise (Lt key))
    (h1 : Y1.Perm (L1 ++ R1)) (h2 : Y2.Perm (L2 ++ R2)) (s1 : Y1.Pairwise (Lt key)) (s2 : Y2.Pairwise (Lt key))
    (a1 : ∀ x ∈ L1, ∀ y ∈ R2, Lt key x y) (a2 : ∀ x ∈ R1, ∀ y ∈ L2, Lt key x y) :
    (Y1 ++ Y2).Perm ((L1 ++ L2) ++ (R1 ++ R2)) ∧ (Y1 ++ Y2).Pairwise (Lt key) := by
  rw [List.pairwise_append] at hL hR
  constructor
  · refine (h1.append h2).trans ?_
    have : (L1 ++ R1 ++ (L2 ++ R2)).Perm (L1 ++ L2 ++ (R1 ++ R2)) := by
      rw [List.append_assoc, List.append_assoc]
      refine List.Perm.append_left L1 ?_
      rw [← List.append_assoc, ← List.append_assoc]
      exact List.Perm.append_right R2 List.perm_append_comm
    exact this
  · rw [List.pairwise_append]
    refine ⟨s1, s2, fun x hx y hy => ?_⟩
    rcases List.mem_append.1 (h1.subset hx) with e | e <;> rcases List.mem_append.1 (h2.subset hy) with f | f
    · exact hL.2.2 x e y f
    · exact a1 x e y f
    · exact a2 x e y f
    · exact hR.2.2 x e y f
theorem sorted_get {l : List Nat} (h : l.Pairwise (Lt key)) {i j : Nat} (hj : j < l.length) (hij : i < j) : Lt key (l[i]'(by omega)) (l[j]'hj) := List.pairwise_iff_getElem.1 h i j (by omega) hj hij
theorem mem_take_get {l : List Nat} {k x : Nat} (h : x ∈ l.take k) : ∃ i, ∃ (hi : i < l.length), i < k ∧ l[i] = x := by
  obtain ⟨i, hi, e⟩ := List.getElem_of_mem h
  rw [List.length_take] at hi
  refine ⟨i, by omega, by omega, ?_⟩
  rw [List.getElem_take] at e
  exact e
theorem mem_drop_get {l : List Nat} {k x : Nat} (h : x ∈ l.drop k) : ∃ i, ∃ (hi : i < l.length), k ≤ i ∧ l[i] = x := by
  obtain ⟨i, hi, e⟩ := List.getElem_of_mem h
  rw [List.length_drop] at hi
  refine ⟨k + i, by omega, by omega, ?_⟩
  rw [List.getElem_drop] at e
  exact e
end Go.Proofs.Ytbmgmjfpoepgpaa
