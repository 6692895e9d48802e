/- Blanks at both ends play no part: of the parse alone. -/
import Derived.Test.YtbepgbkbpkaodaaDoorJQryV
import Derived.Lib.DecodeN
namespace Go.Proofs.YtbepgbkbpkaodaaDoor
open Go.RowKit

def gB (l : List UInt8) (i : Nat) : Nat := (l[i]?.getD 0).toNat
def dec0 (m : List UInt8) : Nat × Nat := Lib.decodeN m.length (gB m 0) (gB m 1) (gB m 2) (gB m 3)
theorem get_gB (s : ByteArray) (i : Nat) : (s.get! i).toNat = gB s.data.toList i := by
  obtain ⟨d⟩ := s
  unfold gB
  show (d[i]!).toNat = _
  rw [Array.getElem!_eq_getD, Array.getD_eq_getD_getElem?, Array.getElem?_toList]
  rfl
theorem bsize (s : ByteArray) : s.data.toList.length = s.size := Array.length_toList
theorem gB_drop (l : List UInt8) (i j : Nat) : gB (l.drop i) j = gB l (i + j) := by unfold gB; rw [List.getElem?_drop]
theorem decode_dec0 (s : ByteArray) (p : Nat) : Utf8.decode s p = dec0 (s.data.toList.drop p) := by
  rw [Lib.decode_at, get_gB, get_gB, get_gB, get_gB]
  unfold dec0
  rw [gB_drop, gB_drop, gB_drop, gB_drop, List.length_drop]
  rfl
def runesU : Nat → List UInt8 → List Int
  | 0, _ => []
  | _ + 1, [] => []
  | f + 1, c :: m => ((dec0 (c :: m)).1 : Int) :: runesU f ((c :: m).drop (dec0 (c :: m)).2)
theorem runesF_U (s : ByteArray) : ∀ f p, runesF s f p = runesU f (s.data.toList.drop p)
  | 0, _ => rfl
  | f + 1, p => by
    rw [runesF_succ]
    by_cases h : p < s.size
    · rw [if_pos h, runesF_U s f, decode_dec0]
      have hl : p < s.data.toList.length := by simpa using h
      rw [List.drop_eq_getElem_cons hl]
      show _ = _ :: runesU f _
      rw [← List.drop_eq_getElem_cons hl, List.drop_drop]
    · rw [if_neg h, List.drop_eq_nil_of_le (by have : s.data.toList.length = s.size := bsize s
                                               omega)]
      rfl
theorem dec0_pos (m : List UInt8) : 0 < (dec0 m).2 := by
  unfold dec0 Lib.decodeN
  repeat' split
  all_goals simp
theorem runesU_more : ∀ (f : Nat) (m : List UInt8), m.length ≤ f → runesU (f + 1) m = runesU f m
  | 0, m, h => by
    have : m = [] := List.eq_nil_of_length_eq_zero (by omega)
    subst this; rfl
  | f + 1, [], _ => rfl
  | f + 1, c :: m, h => by
    have hd := dec0_pos (c :: m)
    show _ :: runesU (f + 1) _ = _ :: runesU f _
    rw [runesU_more f _ (by rw [List.length_drop]; omega)]
def runesB (m : List UInt8) : List Int := runesU m.length m
theorem runesU_any (f : Nat) (m : List UInt8) (h : m.length ≤ f) : runesU f m = runesB m := by
  obtain ⟨g, rfl⟩ : ∃ g, f = m.length + g := ⟨f - m.length, by omega⟩
  clear h
  induction g with
  | zero => rfl
  | succ g ih => rw [← Nat.add_assoc, runesU_more _ _ (by omega)]; exact ih
theorem runesS_B (s : ByteArray) : runesS s = runesB s.data.toList := by
  unfold runesS
  rw [runesF_U, List.drop_zero]
  exact runesU_any _ _ (by rw [bsize]; exact Nat.le_refl _)
theorem runesB_nil : runesB [] = [] := rfl
theorem runesB_cons (c : UInt8) (m : List UInt8) : runesB (c :: m) = ((dec0 (c :: m)).1 : Int) :: runesB ((c :: m).drop (dec0 (c :: m)).2) := by
  have hd := dec0_pos (c :: m)
  show _ :: runesU m.length _ = _
  rw [runesU_any _ _ (by rw [List.length_drop, List.length_cons]; omega)]
theorem dec0_ascii (c : UInt8) (m : List UInt8) (h : c.toNat < 128) : dec0 (c :: m) = (c.toNat, 1) := by
  unfold dec0 Lib.decodeN
  have : gB (c :: m) 0 = c.toNat := rfl
  rw [this, if_pos h]
theorem runesB_ascii (c : UInt8) (m : List UInt8) (h : c.toNat < 128) : runesB (c :: m) = (c.toNat : Int) :: runesB m := by
  rw [runesB_cons, dec0_ascii c m h]; rfl
def asciiL (l : List UInt8) : Prop := ∀ c ∈ l, c.toNat < 128
theorem runesB_front (a m : List UInt8) (ha : asciiL a) : runesB (a ++ m) = a.map (fun c => (c.toNat : Int)) ++ runesB m := by
  induction a with
  | nil => rfl
  | cons c a ih =>
    rw [List.cons_append, runesB_ascii _ _ (ha c List.mem_cons_self), ih (fun d hd => ha d (List.mem_cons_of_mem _ hd))]; rfl
theorem runesB_all (a : List UInt8) (ha : asciiL a) : runesB a = a.map (fun c => (c.toNat : Int)) := by
  have := runesB_front a [] ha
  rw [List.append_nil, runesB_nil, List.append_nil] at this
  exact this
theorem decodeN_agree (n n' b0 b1 b2 b3 c1 c2 c3 : Nat) (h1 : (1 < n ∧ 1 < n' ∧ b1 = c1) ∨ (¬ (1 < n ∧ b1 / 64 = 2) ∧ ¬ (1 < n' ∧ c1 / 64 = 2))) (h2 : (2 < n ∧ 2 < n' ∧ b2 = c2) ∨ (¬ (2 < n ∧ b2 / 64 = 2) ∧ ¬ (2 < n' ∧ c2 / 64 = 2)))
    (h3 : (3 < n ∧ 3 < n' ∧ b3 = c3) ∨ (¬ (3 < n ∧ b3 / 64 = 2) ∧ ¬ (3 < n' ∧ c3 / 64 = 2))) : Lib.decodeN n b0 b1 b2 b3 = Lib.decodeN n' b0 c1 c2 c3 := by
  unfold Lib.decodeN
  rcases h1 with ⟨a1, a2, rfl⟩ | ⟨a1, a2⟩
  · rcases h2 with ⟨d1, d2, rfl⟩ | ⟨d1, d2⟩
    · rcases h3 with ⟨e1, e2, rfl⟩ | ⟨e1, e2⟩
      · simp only [a1, a2, d1, d2, e1, e2, true_and]
      · simp only [a1, a2, d1, d2, e1, e2, true_and, and_false, if_false]
    · simp only [a1, a2, d1, d2, true_and, false_and, and_false, if_false]
  · simp only [a1, a2, false_and, and_false, if_false]
theorem dec0_le (m : List UInt8) (hm : m ≠ []) : (dec0 m).2 ≤ m.length := by
  have : 0 < m.length := List.length_pos_iff.2 hm
  unfold dec0 Lib.decodeN
  repeat' split
  all_goals (simp only; omega)
theorem dec0_tail (m b : List UInt8) (hm : m ≠ []) (hb : asciiL b) : dec0 (m ++ b) = dec0 m := by
  have hp : 0 < m.length := List.length_pos_iff.2 hm
  have h0 : gB (m ++ b) 0 = gB m 0 := by unfold gB; rw [List.getElem?_append_left hp]
  have hj : ∀ j, 0 < j → (j < (m ++ b).length ∧ j < m.length ∧ gB (m ++ b) j = gB m j) ∨ (¬ (j < (m ++ b).length ∧ gB (m ++ b) j / 64 = 2) ∧ ¬ (j < m.length ∧ gB m j / 64 = 2)) := by
    intro j _
    by_cases h : j < m.length
    · exact Or.inl ⟨by rw [List.length_append]; omega, h, by unfold gB; rw [List.getElem?_append_left h]⟩
    · refine Or.inr ⟨?_, fun g => h g.1⟩
      rintro ⟨_, g⟩
      unfold gB at g
      rw [List.getElem?_append_right (by omega)] at g
      cases hx : b[j - m.length]? with
      | none => rw [hx] at g; simp at g
      | some c =>
        rw [hx] at g
        have := hb c (List.mem_of_getElem? hx)
        simp only [Option.getD_some] at g
        omega
  unfold dec0
  rw [h0]
  exact decodeN_agree _ _ _ _ _ _ _ _ _ (hj 1 (by omega)) (hj 2 (by omega)) (hj 3 (by omega))
theorem runesB_back (b : List UInt8) (hb : asciiL b) : ∀ (N : Nat) (m : List UInt8), m.length ≤ N → runesB (m ++ b) = runesB m ++ b.map (fun c => (c.toNat : Int))
  | _, [], _ => by rw [List.nil_append, runesB_nil, List.nil_append]; exact runesB_all b hb
  | 0, c :: m, h => by simp at h
  | N + 1, c :: m, h => by
    have hd := dec0_pos (c :: m)
    have hl := dec0_le (c :: m) (by simp)
    have ht := dec0_tail (c :: m) b (by simp) hb
    rw [runesB_cons, List.cons_append, runesB_cons]
    rw [← List.cons_append, ht, List.drop_append_of_le_length hl, runesB_back b hb N _ (by rw [List.length_drop]; omega)]
    rfl

/-- all blanks -/
def blL (B : List Int) : Prop := ∀ r ∈ B, isBl r = true
theorem blL.skip {B : List Int} (h : blL B) (l : List Int) : skipS (B ++ l) = skipS l := by
  induction B with
  | nil => rfl
  | cons r B ih =>
    show (r :: (B ++ l)).dropWhile isBl = _
    rw [List.dropWhile_cons_of_pos (h r List.mem_cons_self)]
    exact ih (fun x hx => h x (List.mem_cons_of_mem _ hx))
theorem blL.sign {B : List Int} (h : blL B) (ch : Int) (l : List Int) : signS ch (B ++ l) = signS ch l := by unfold signS; rw [h.skip]
theorem blL.after {B : List Int} (h : blL B) (ch : Int) (l : List Int) : afterS ch (B ++ l) = afterS ch l := by unfold afterS; rw [h.sign, h.skip]
theorem blL.not {B : List Int} (h : blL B) (m : Nat) (l : List Int) : notS m (B ++ l) = notS m l := by
  cases m with
  | zero => unfold notS; rw [h.sign, h.after]
  | succ m => unfold notS; rw [h.sign, h.after]
theorem blL.root {B : List Int} (h : blL B) (l : List Int) : rootS (B ++ l) = rootS l := by
  have e : andOf (notS 8) (B ++ l) = andOf (notS 8) l := by unfold andOf listOf; rw [h.not]
  show listOf (andOf (notS 8)) orM 3 (B ++ l) = listOf (andOf (notS 8)) orM 3 l
  unfold listOf
  rw [e]
theorem blL.parse {B : List Int} (h : blL B) (l : List Int) : parseR (B ++ l) = parseR l := by unfold parseR; rw [h.root]

/-- the same, but for blanks behind -/
def Tl (x y : List Int) : Prop := ∃ B, blL B ∧ y = x ++ B
def RelP : PRes → PRes → Prop
  | .error e, .error e' => e = e'
  | .ok (n, x), .ok (n', y) => n = n' ∧ Tl x y
  | _, _ => False
theorem skip_tl (x B : List Int) (h : blL B) : (skipS x = [] ∧ skipS (x ++ B) = []) ∨ (skipS x ≠ [] ∧ skipS (x ++ B) = skipS x ++ B) := by
  induction x with
  | nil =>
    refine Or.inl ⟨rfl, ?_⟩
    have := h.skip []
    rw [List.append_nil] at this
    exact this
  | cons r x ih =>
    by_cases hr : isBl r = true
    · unfold skipS at *
      rw [List.cons_append, List.dropWhile_cons_of_pos hr, List.dropWhile_cons_of_pos hr]
      exact ih
    · refine Or.inr ?_
      unfold skipS
      rw [List.cons_append, List.dropWhile_cons_of_neg hr, List.dropWhile_cons_of_neg hr]
      exact ⟨by simp, rfl⟩
theorem Tl.skip {x y : List Int} (h : Tl x y) : Tl (skipS x) (skipS y) := by
  obtain ⟨B, hB, rfl⟩ := h
  rcases skip_tl x B hB with ⟨h1, h2⟩ | ⟨h1, h2⟩
  · exact ⟨[], fun r hr => by simp at hr, by rw [h1, h2]; rfl⟩
  · exact ⟨B, hB, h2⟩
theorem Tl.head {x y : List Int} (h : Tl x y) : (skipS y).head? = (skipS x).head? := by
  obtain ⟨B, hB, rfl⟩ := h
  rcases skip_tl x B hB with ⟨h1, h2⟩ | ⟨h1, h2⟩
  · rw [h1, h2]
  · rw [h2]
    cases hs : skipS x with
    | nil => exact absurd hs h1
    | cons a t => rfl
theorem Tl.sign {x y : List Int} (h : Tl x y) (ch : Int) : signS ch y = signS ch x := by unfold signS; rw [h.head]
theorem Tl.tail {x y : List Int} (h : Tl x y) (hx : x ≠ []) : Tl x.tail y.tail := by
  obtain ⟨B, hB, rfl⟩ := h
  cases x with
  | nil => exact absurd rfl hx
  | cons a t => exact ⟨B, hB, rfl⟩
theorem Tl.after {x y : List Int} (h : Tl x y) (ch : Int) : Tl (afterS ch x) (afterS ch y) := by
  unfold afterS
  rw [h.sign]
  by_cases hs : signS ch x = true
  · rw [if_pos hs, if_pos hs]
    refine h.skip.tail ?_
    intro he
    unfold signS at hs
    rw [he] at hs
    cases hs
  · rw [if_neg hs, if_neg hs]
    exact h.skip
theorem skip_idem (x : List Int) : skipS (skipS x) = skipS x := by
  unfold skipS
  induction x with
  | nil => rfl
  | cons r x ih =>
    by_cases hr : isBl r = true
    · rw [List.dropWhile_cons_of_pos hr, ih]
    · rw [List.dropWhile_cons_of_neg hr, List.dropWhile_cons_of_neg hr]
theorem Tl.begins {x y : List Int} (h : Tl x y) : beginS (skipS y) = beginS (skipS x) := by unfold beginS; rw [h.head]
theorem isBl_not {r : Int} (h : isBl r = true) : isW r = false ∧ r ≠ 34 ∧ r ≠ 58 := by
  unfold isBl at h
  simp only [Bool.or_eq_true, beq_iff_eq] at h
  rcases h with ((rfl | rfl) | rfl) | rfl <;> exact ⟨by decide, by decide, by decide⟩
theorem tw_tl (f : Int → Bool) (x B : List Int) (hB : ∀ r ∈ B, f r = false) : (x ++ B).takeWhile f = x.takeWhile f ∧ (x ++ B).dropWhile f = x.dropWhile f ++ B := by
  induction x with
  | nil =>
    cases B with
    | nil => exact ⟨rfl, rfl⟩
    | cons r B =>
      have := hB r List.mem_cons_self
      rw [List.nil_append, List.takeWhile_cons_of_neg (by rw [this]; decide), List.dropWhile_cons_of_neg (by rw [this]; decide)]
      exact ⟨rfl, rfl⟩
  | cons r x ih =>
    by_cases hr : f r = true
    · rw [List.cons_append, List.takeWhile_cons_of_pos hr, List.takeWhile_cons_of_pos hr, List.dropWhile_cons_of_pos hr, List.dropWhile_cons_of_pos hr, ih.1, ih.2]
      exact ⟨rfl, rfl⟩
    · rw [List.cons_append, List.takeWhile_cons_of_neg hr, List.takeWhile_cons_of_neg hr, List.dropWhile_cons_of_neg hr, List.dropWhile_cons_of_neg hr]
      exact ⟨rfl, rfl⟩
theorem Tl.word {x y : List Int} (h : Tl x y) : y.takeWhile isW = x.takeWhile isW ∧ Tl (x.dropWhile isW) (y.dropWhile isW) := by
  obtain ⟨B, hB, rfl⟩ := h
  have := tw_tl isW x B (fun r hr => (isBl_not (hB r hr)).1)
  exact ⟨this.1, B, hB, this.2⟩
theorem Tl.colon {x y : List Int} (h : Tl x y) : (y.head?.getD 0 = 58 ↔ x.head?.getD 0 = 58) := by
  obtain ⟨B, hB, rfl⟩ := h
  cases x with
  | nil =>
    cases B with
    | nil => exact Iff.rfl
    | cons r B =>
      have := (isBl_not (hB r List.mem_cons_self)).2.2
      exact ⟨fun h => absurd h this, fun h => by simp at h⟩
  | cons a t => exact Iff.rfl
theorem Tl.field {x y : List Int} (h : Tl x y) : (fieldS x = none ∧ fieldS y = none) ∨ ∃ f t x' y', fieldS x = some (f, t, x') ∧ fieldS y = some (f, t, y') ∧ Tl x' y' := by
  obtain ⟨h1, h2⟩ := h.word
  have h3 := h2.colon
  unfold fieldS
  dsimp only
  rw [h1]
  by_cases hc : (textS (x.takeWhile isW)).size = 1 ∧ 48 ≤ ((textS (x.takeWhile isW)).data.toList[0]?.getD 0).toNat ∧ ((textS (x.takeWhile isW)).data.toList[0]?.getD 0).toNat ≤ 51 ∧ (x.dropWhile isW).head?.getD 0 = 58
  · have hne : x.dropWhile isW ≠ [] := by
      intro he
      have := hc.2.2.2
      rw [he] at this
      simp at this
    have h4 := (h2.tail hne).skip.word
    refine Or.inr ⟨_, _, _, _, if_pos (by first | exact hc | exact ⟨hc.1, by omega, by omega, hc.2.2.2⟩), ?_, h4.2⟩
    rw [if_pos (by first | exact ⟨hc.1, hc.2.1, hc.2.2.1, h3.2 hc.2.2.2⟩ | exact ⟨hc.1, by omega, by omega, h3.2 hc.2.2.2⟩), h4.1]
  · refine Or.inl ⟨if_neg (by first | exact hc | exact fun g => hc ⟨g.1, by omega, by omega, g.2.2.2⟩), if_neg (by first | exact fun g => hc ⟨g.1, g.2.1, g.2.2.1, h3.1 g.2.2.2⟩ | exact fun g => hc ⟨g.1, by omega, by omega, h3.1 g.2.2.2⟩)⟩
theorem quote_gen (f : Int → Bool) (x B : List Int) (hB : ∀ r ∈ B, f r = true) (hb : blL B) : (x.dropWhile f = [] ∧ (x ++ B).dropWhile f = []) ∨ (x.dropWhile f ≠ [] ∧ (x ++ B).dropWhile f ≠ [] ∧ (x ++ B).takeWhile f = x.takeWhile f ∧ Tl (x.dropWhile f).tail ((x ++ B).dropWhile f).tail) := by
  induction x with
  | nil =>
    refine Or.inl ⟨rfl, ?_⟩
    rw [List.nil_append]
    clear hb
    induction B with
    | nil => rfl
    | cons r B ih => rw [List.dropWhile_cons_of_pos (hB r List.mem_cons_self)]; exact ih (fun x hx => hB x (List.mem_cons_of_mem _ hx))
  | cons r x ih =>
    by_cases hr : f r = true
    · rw [List.cons_append, List.takeWhile_cons_of_pos hr, List.takeWhile_cons_of_pos hr, List.dropWhile_cons_of_pos hr, List.dropWhile_cons_of_pos hr]
      rcases ih with h | ⟨a, b, c, d⟩
      · exact Or.inl h
      · exact Or.inr ⟨a, b, by rw [c], d⟩
    · rw [List.cons_append, List.takeWhile_cons_of_neg hr, List.takeWhile_cons_of_neg hr, List.dropWhile_cons_of_neg hr, List.dropWhile_cons_of_neg hr]
      exact Or.inr ⟨by simp, by simp, rfl, B, hb, rfl⟩
theorem Tl.quote {x y : List Int} (h : Tl x y) : (x.dropWhile (· != 34) = [] ∧ y.dropWhile (· != 34) = []) ∨ (x.dropWhile (· != 34) ≠ [] ∧ y.dropWhile (· != 34) ≠ [] ∧ y.takeWhile (· != 34) = x.takeWhile (· != 34) ∧ Tl (x.dropWhile (· != 34)).tail (y.dropWhile (· != 34)).tail) := by
  obtain ⟨B, hB, rfl⟩ := h
  exact quote_gen _ x B (fun r hr => by simpa using (isBl_not (hB r hr)).2.1) hB
theorem Tl.leafT {x y : List Int} (h : Tl x y) (f : Int) (t : ByteArray) : RelP (leafTS f t x) (leafTS f t y) := by
  unfold leafTS
  by_cases h0 : t.size ≠ 0
  · rw [if_pos h0, if_pos h0]; exact ⟨rfl, h⟩
  rw [if_neg h0, if_neg h0, h.sign]
  by_cases h1 : signS 34 x = true
  · rw [if_pos h1, if_pos h1]
    rcases (h.after 34).quote with ⟨a, b⟩ | ⟨a, b, c, d⟩
    · rw [if_neg (fun g => g a), if_neg (fun g => g b)]; exact rfl
    · rw [if_pos a, if_pos b, c]; exact ⟨rfl, d⟩
  · rw [if_neg h1, if_neg h1]; exact rfl
theorem Tl.leaf {x y : List Int} (h : Tl x y) : RelP (leafS x) (leafS y) := by
  unfold leafS
  rcases h.field with ⟨h1, h2⟩ | ⟨f, t, x', y', h1, h2, h3⟩
  · rw [h1, h2]
    dsimp only
    rw [h.word.1]
    exact h.word.2.leafT _ _
  · rw [h1, h2]
    exact h3.leafT _ _
/-- f feels no blanks behind -/
def Deaf (f : List Int → PRes) : Prop := ∀ x y, Tl x y → RelP (f x) (f y)
theorem loopS_tl {f : List Int → PRes} {more : List Int → Bool × List Int} {kind : Int} (hf : Deaf f) (hm : ∀ x y, Tl x y → (more x).1 = (more y).1 ∧ Tl (more x).2 (more y).2) : ∀ (k : Nat) (kids : List Nd) (x y : List Int), Tl x y → RelP (loopS f more kind k kids x) (loopS f more kind k kids y)
  | 0, _, _, _, _ => rfl
  | k + 1, kids, x, y, h => by
    obtain ⟨h1, h2⟩ := hm x y h
    unfold loopS
    rw [← h1]
    by_cases hs : (more x).1 = true
    · rw [if_pos hs, if_pos hs]
      have h3 := hf _ _ h2
      cases hx : f (more x).2 with
      | error e =>
        cases hy : f (more y).2 with
        | error e' => rw [hx, hy] at h3; exact h3
        | ok v => rw [hx, hy] at h3; exact h3.elim
      | ok u =>
        cases hy : f (more y).2 with
        | error e' => rw [hx, hy] at h3; exact h3.elim
        | ok v =>
          rw [hx, hy] at h3
          obtain ⟨n, r⟩ := u
          obtain ⟨n', r'⟩ := v
          obtain ⟨rfl, h4⟩ := h3
          exact loopS_tl hf hm k _ r r' h4
    · rw [if_neg hs, if_neg hs]
      exact ⟨rfl, h2⟩
theorem listOf_tl {f : List Int → PRes} {more : List Int → Bool × List Int} {kind : Int} (hp : Prog f) (hml : ∀ l, (more l).2.length ≤ l.length) (hf : Deaf f) (hm : ∀ x y, Tl x y → (more x).1 = (more y).1 ∧ Tl (more x).2 (more y).2) : Deaf (listOf f more kind) := by
  intro x y h
  have h3 := hf _ _ h
  unfold listOf
  cases hx : f x with
  | error e =>
    cases hy : f y with
    | error e' => rw [hx, hy] at h3; exact h3
    | ok v => rw [hx, hy] at h3; exact h3.elim
  | ok u =>
    cases hy : f y with
    | error e' => rw [hx, hy] at h3; exact h3.elim
    | ok v =>
      rw [hx, hy] at h3
      obtain ⟨n, r⟩ := u
      obtain ⟨n', r'⟩ := v
      obtain ⟨rfl, h4⟩ := h3
      dsimp only
      have e : r.length ≤ r'.length := by obtain ⟨B, _, rfl⟩ := h4; rw [List.length_append]; omega
      rw [← loopS_more hp hml (r'.length + 1) [n] r (by omega)]
      exact loopS_tl hf hm _ _ _ _ h4
theorem andM_tl (x y : List Int) (h : Tl x y) : (andM x).1 = (andM y).1 ∧ Tl (andM x).2 (andM y).2 := by
  unfold andM
  rw [h.sign]
  by_cases hs : signS 38 x = true
  · rw [if_pos hs, if_pos hs]; exact ⟨rfl, h.after 38⟩
  · rw [if_neg hs, if_neg hs]; exact ⟨(h.after 38).begins.symm, (h.after 38).skip⟩
theorem orM_tl (x y : List Int) (h : Tl x y) : (orM x).1 = (orM y).1 ∧ Tl (orM x).2 (orM y).2 := ⟨(h.sign 124).symm, h.after 124⟩
theorem orOf_tl {f : List Int → PRes} (hp : Prog f) (hf : Deaf f) : Deaf (orOf f) := listOf_tl (andOf_prog hp) orM_le (listOf_tl hp andM_le hf andM_tl) orM_tl
theorem notS_tl : ∀ m, Deaf (notS m)
  | 0 => by
    intro x y h
    have h2 := h.after 33
    unfold notS
    rw [h.sign, h2.sign]
    by_cases h3 : signS 33 x = true
    · rw [if_pos h3, if_pos h3]; exact rfl
    rw [if_neg h3, if_neg h3]
    by_cases h4 : signS 40 (afterS 33 x) = true
    · rw [if_pos h4, if_pos h4]; exact rfl
    rw [if_neg h4, if_neg h4]
    exact (h2.after 40).leaf
  | m + 1 => by
    intro x y h
    have h2 := h.after 33
    unfold notS
    rw [h.sign, h2.sign]
    by_cases h3 : signS 33 x = true
    · rw [if_pos h3, if_pos h3]
      have h5 := notS_tl m _ _ h2
      cases hx : notS m (afterS 33 x) with
      | error e =>
        cases hy : notS m (afterS 33 y) with
        | error e' => rw [hx, hy] at h5; exact h5
        | ok v => rw [hx, hy] at h5; exact h5.elim
      | ok u =>
        cases hy : notS m (afterS 33 y) with
        | error e' => rw [hx, hy] at h5; exact h5.elim
        | ok v =>
          rw [hx, hy] at h5
          obtain ⟨n, r⟩ := u
          obtain ⟨n', r'⟩ := v
          obtain ⟨rfl, h6⟩ := h5
          exact ⟨rfl, h6⟩
    rw [if_neg h3, if_neg h3]
    by_cases h4 : signS 40 (afterS 33 x) = true
    · rw [if_pos h4, if_pos h4]
      have h5 := orOf_tl (notS_prog m) (notS_tl m) _ _ (h2.after 40)
      cases hx : orOf (notS m) (afterS 40 (afterS 33 x)) with
      | error e =>
        cases hy : orOf (notS m) (afterS 40 (afterS 33 y)) with
        | error e' => rw [hx, hy] at h5; exact h5
        | ok v => rw [hx, hy] at h5; exact h5.elim
      | ok u =>
        cases hy : orOf (notS m) (afterS 40 (afterS 33 y)) with
        | error e' => rw [hx, hy] at h5; exact h5.elim
        | ok v =>
          rw [hx, hy] at h5
          obtain ⟨n, r⟩ := u
          obtain ⟨n', r'⟩ := v
          obtain ⟨rfl, h6⟩ := h5
          dsimp only
          rw [h6.sign]
          by_cases h7 : signS 41 r = true
          · rw [if_pos h7, if_pos h7]; exact ⟨rfl, h6.after 41⟩
          · rw [if_neg h7, if_neg h7]; exact rfl
    rw [if_neg h4, if_neg h4]
    exact (h2.after 40).leaf
theorem Tl.rest {x y : List Int} (h : Tl x y) : nextWS y = nextWS x ∧ Tl (restW x) (restW y) := by
  unfold nextWS restW
  rw [h.skip.word.1]
  exact ⟨rfl, h.skip.word.2⟩
theorem afterS_no {ch : Int} {l : List Int} (h : ¬ signS ch l = true) : afterS ch l = skipS l := by unfold afterS; rw [if_neg h]
theorem Tl.nil {x y : List Int} (h : Tl x y) : (skipS y = [] ↔ skipS x = []) := by
  have := h.head
  constructor
  · intro g
    rw [g] at this
    cases hs : skipS x with
    | nil => rfl
    | cons a t => rw [hs] at this; cases this
  · intro g
    rw [g] at this
    cases hs : skipS y with
    | nil => rfl
    | cons a t => rw [hs] at this; cases this
theorem tailS_tl : ∀ (k : Nat) (li o : Int) (x y : List Int), Tl x y → tailS k li o x = tailS k li o y
  | 0, _, _, _, _, _ => rfl
  | k + 1, li, o, x, y, h => by
    have h2 := h.after 35
    unfold tailS
    rw [h.sign, h2.sign, (h2.after 64).rest.1, h2.rest.1]
    by_cases h3 : signS 35 x = true
    · rw [if_pos h3, if_pos h3]
      by_cases h4 : 0 ≤ li
      · rw [if_pos h4, if_pos h4]
      rw [if_neg h4, if_neg h4]
      cases limitP (nextWS (afterS 35 x)) with
      | none => rfl
      | some n => exact tailS_tl k _ _ _ _ h2.rest.2
    rw [if_neg h3, if_neg h3]
    by_cases h5 : signS 64 (afterS 35 x) = true
    · rw [if_pos h5, if_pos h5]
      by_cases h4 : 0 ≤ o
      · rw [if_pos h4, if_pos h4]
      rw [if_neg h4, if_neg h4]
      cases orderP (nextWS (afterS 64 (afterS 35 x))) with
      | none => rfl
      | some n => exact tailS_tl k _ _ _ _ (h2.after 64).rest.2
    rw [if_neg h5, if_neg h5]
    have h6 : ¬ signS 64 (afterS 35 y) = true := by rw [h2.sign]; exact h5
    rw [afterS_no h5, afterS_no h6]
    by_cases h7 : skipS (afterS 35 x) = []
    · rw [if_neg (fun g => g h7), if_neg (fun g => g (h2.nil.2 h7))]
    · rw [if_pos h7, if_pos (fun g => h7 (h2.nil.1 g))]
theorem parseR_tl {x y : List Int} (h : Tl x y) : parseR y = parseR x := by
  have h5 := orOf_tl (notS_prog 8) (notS_tl 8) _ _ h
  unfold parseR rootS
  cases hx : orOf (notS 8) x with
  | error e =>
    cases hy : orOf (notS 8) y with
    | error e' => rw [hx, hy] at h5; cases h5; rfl
    | ok v => rw [hx, hy] at h5; exact h5.elim
  | ok u =>
    cases hy : orOf (notS 8) y with
    | error e' => rw [hx, hy] at h5; exact h5.elim
    | ok v =>
      rw [hx, hy] at h5
      obtain ⟨n, r⟩ := u
      obtain ⟨n', r'⟩ := v
      obtain ⟨rfl, h6⟩ := h5
      dsimp only
      have e : r.length ≤ r'.length := by obtain ⟨B, _, rfl⟩ := h6; rw [List.length_append]; omega
      have : tailOf r' = tailOf r := by
        unfold tailOf
        rw [← tailS_tl _ _ _ _ _ h6, tailS_more _ _ _ r (by omega)]
      rw [this]
/-- blanks at both ends play no part -/
theorem parse_blanks (a b s : ByteArray) (ha : ∀ c ∈ a.data.toList, c.toNat < 128 ∧ isBl (c.toNat : Int) = true) (hb : ∀ c ∈ b.data.toList, c.toNat < 128 ∧ isBl (c.toNat : Int) = true) (hl : a.size + s.size + b.size ≤ 256) : parseS (a ++ s ++ b) = parseS s := by
  have e : (a ++ s ++ b).data.toList = a.data.toList ++ (s.data.toList ++ b.data.toList) := by simp
  have hsz : (a ++ s ++ b).size = a.size + s.size + b.size := by simp
  unfold parseS
  rw [if_neg (by omega), if_neg (by omega), runesS_B, e, runesB_front _ _ (fun c hc => (ha c hc).1), runesB_back _ (fun c hc => (hb c hc).1) _ _ (Nat.le_refl _), ← runesS_B]
  rw [blL.parse (fun r hr => by obtain ⟨c, hc, rfl⟩ := List.mem_map.1 hr; exact (ha c hc).2)]
  exact parseR_tl ⟨_, fun r hr => by obtain ⟨c, hc, rfl⟩ := List.mem_map.1 hr; exact (hb c hc).2, rfl⟩
end Go.Proofs.YtbepgbkbpkaodaaDoor
