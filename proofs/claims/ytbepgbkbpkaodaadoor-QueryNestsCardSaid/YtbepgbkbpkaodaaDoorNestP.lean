/- Brackets and signs that turn: of the parse alone. -/
import Derived.Test.YtbepgbkbpkaodaaDoorBlankP
import Derived.Test.YtbepgbkbpkaodaaDoorParts
namespace Go.Proofs.YtbepgbkbpkaodaaDoor
open Go.RowKit

theorem isW_ne {r : Int} (h : isW r = true) : r ≠ 33 ∧ r ≠ 40 ∧ r ≠ 41 ∧ r ≠ 38 ∧ r ≠ 124 ∧ isBl r = false := by
  refine ⟨?_, ?_, ?_, ?_, ?_, ?_⟩
  · rintro rfl; exact absurd h (by decide)
  · rintro rfl; exact absurd h (by decide)
  · rintro rfl; exact absurd h (by decide)
  · rintro rfl; exact absurd h (by decide)
  · rintro rfl; exact absurd h (by decide)
  · cases hb : isBl r with
    | false => rfl
    | true => rw [(isBl_not hb).1] at h; cases h
theorem blL_nil : blL [] := fun r hr => by simp at hr
/-- a word between blanks -/
structure Shape (rs a W b : List Int) : Prop where
  eq : rs = a ++ (W ++ b)
  ha : blL a
  hW : ∀ r ∈ W, isW r = true
  ne : W ≠ []
  hb : blL b
theorem parts_nil : ∀ (l : List Int), partsR l = [] → blL l
  | [], _ => blL_nil
  | c :: l, h => by
    rw [partsR_cons] at h
    by_cases h1 : fieldQ (c :: l) = true
    · rw [if_pos h1] at h; cases h
    rw [if_neg h1] at h
    by_cases h2 : isW c = true
    · rw [if_pos h2] at h; cases h
    rw [if_neg h2] at h
    by_cases h3 : isBl c = true
    · rw [if_pos h3] at h
      have ih := parts_nil l h
      intro r hr
      rcases List.mem_cons.1 hr with rfl | hr
      · exact h3
      · exact ih r hr
    rw [if_neg h3] at h
    by_cases h4 : c = 34
    · rw [if_pos h4] at h
      split at h <;> cases h
    rw [if_neg h4] at h
    by_cases h5 : signQ c = true
    · rw [if_pos h5] at h; cases h
    rw [if_neg h5] at h; cases h
theorem parts_one : ∀ (l : List Int) (t : ByteArray), partsR l = [(119, t)] → ∃ a W b, Shape l a W b
  | [], _, h => by cases h
  | c :: l, t, h => by
    rw [partsR_cons] at h
    by_cases h1 : fieldQ (c :: l) = true
    · rw [if_pos h1] at h
      injection h with h _
      injection h with h _
      exact absurd h (by decide)
    rw [if_neg h1] at h
    by_cases h2 : isW c = true
    · rw [if_pos h2] at h
      injection h with _ h
      refine ⟨[], (c :: l).takeWhile isW, (c :: l).dropWhile isW, (List.takeWhile_append_dropWhile).symm, blL_nil, fun r hr => ?_, ?_, parts_nil _ h⟩
      · exact List.all_eq_true.1 (List.all_takeWhile) r hr
      · rw [List.takeWhile_cons_of_pos h2]; simp
    rw [if_neg h2] at h
    by_cases h3 : isBl c = true
    · rw [if_pos h3] at h
      obtain ⟨a, W, b, hs⟩ := parts_one l t h
      refine ⟨c :: a, W, b, by rw [hs.eq]; rfl, fun r hr => ?_, hs.hW, hs.ne, hs.hb⟩
      rcases List.mem_cons.1 hr with rfl | hr
      · exact h3
      · exact hs.ha r hr
    rw [if_neg h3] at h
    by_cases h4 : c = 34
    · rw [if_pos h4] at h
      split at h
      · injection h with h _
        injection h with h _
        exact absurd h (by decide)
      · injection h with h _
        injection h with h _
        exact absurd h (by decide)
    rw [if_neg h4] at h
    by_cases h5 : signQ c = true
    · rw [if_pos h5] at h
      injection h with h _
      injection h with h _
      subst h
      exact absurd h5 (by decide)
    rw [if_neg h5] at h
    injection h with h _
    injection h with h _
    exact absurd h (by decide)

def nestN : Nat → Nd → Nd
  | 0, x => x
  | n + 1, x => .mk 4 0 [] [nestN n x]
/-- what may follow a bracketed word: nothing, or a closing bracket -/
def closing (X : List Int) : Prop := X = [] ∨ ∃ Y, X = 41 :: Y
theorem closing.head {X : List Int} (h : closing X) : ∀ r, X.head? = some r → r = 41 := by
  intro r hr
  rcases h with rfl | ⟨Y, rfl⟩
  · cases hr
  · injection hr with hr; exact hr.symm
theorem skip_bl {Z X : List Int} (hZ : blL Z) (hX : closing X) : skipS (Z ++ X) = X := by
  rw [hZ.skip]
  rcases hX with rfl | ⟨Y, rfl⟩
  · rfl
  · exact List.dropWhile_cons_of_neg (by decide)
theorem sign_cl {Z X : List Int} (hZ : blL Z) (hX : closing X) (ch : Int) (hc : ch ≠ 41) : signS ch (Z ++ X) = false := by
  unfold signS
  rw [skip_bl hZ hX]
  rcases hX with rfl | ⟨Y, rfl⟩
  · rfl
  · show (some (41 : Int) == some ch) = false
    simpa using fun h => hc h.symm
theorem after_cl {Z X : List Int} (hZ : blL Z) (hX : closing X) (ch : Int) (hc : ch ≠ 41) : afterS ch (Z ++ X) = X := by
  rw [afterS_no (by rw [sign_cl hZ hX ch hc]; decide), skip_bl hZ hX]
theorem andM_cl {Z X : List Int} (hZ : blL Z) (hX : closing X) : andM (Z ++ X) = (false, X) := by
  unfold andM
  rw [sign_cl hZ hX 38 (by decide), if_neg (by decide), after_cl hZ hX 38 (by decide)]
  have e : skipS X = X := by
    have := skip_bl (Z := []) (blL_nil) hX
    exact this
  rw [e]
  rcases hX with rfl | ⟨Y, rfl⟩
  · rfl
  · show (_, _) = (_, _)
    congr 1
theorem orM_cl {X : List Int} (hX : closing X) : orM X = (false, X) := by
  unfold orM
  have h1 := sign_cl (Z := []) (blL_nil) hX 124 (by decide)
  have h2 := after_cl (Z := []) (blL_nil) hX 124 (by decide)
  rw [List.nil_append] at h1 h2
  rw [h1, h2]
theorem orOf_cl {f : List Int → PRes} {l Z X : List Int} {n : Nd} (hf : f l = .ok (n, Z ++ X)) (hZ : blL Z) (hX : closing X) : orOf f l = .ok (n, X) := by
  have h1 : andOf f l = .ok (n, X) := by
    unfold andOf listOf
    rw [hf]
    show loopS f andM 2 ((Z ++ X).length + 1) [n] (Z ++ X) = _
    rw [loopS_stop (by rw [andM_cl hZ hX]), andM_cl hZ hX]; rfl
  show listOf (andOf f) orM 3 l = _
  unfold listOf
  rw [h1]
  show loopS (andOf f) orM 3 (X.length + 1) [n] X = _
  rw [loopS_stop (by rw [orM_cl hX]), orM_cl hX]; rfl
theorem orOf_err {f : List Int → PRes} {l : List Int} {e : Int} (hf : f l = .error e) : orOf f l = .error e := by
  have h1 : andOf f l = .error e := by unfold andOf listOf; rw [hf]
  show listOf (andOf f) orM 3 l = _
  unfold listOf
  rw [h1]
/-- brackets ahead, brackets behind -/
def brk (b : Nat) (rs X : List Int) : List Int := List.replicate b 40 ++ (rs ++ (List.replicate b 41 ++ X))
theorem brk_succ (b : Nat) (rs X : List Int) : brk (b + 1) rs X = 40 :: brk b rs (41 :: X) := by
  unfold brk
  rw [List.replicate_succ, List.replicate_succ', List.append_assoc]; rfl
theorem word_leaf {rs a W b X : List Int} (h : Shape rs a W b) (hX : closing X) (m : Nat) : notS m (rs ++ X) = .ok (leafN 0 (textS W), b ++ X) := by
  obtain ⟨r, W', hW⟩ : ∃ r W', W = r :: W' := by
    cases hW : W with
    | nil => exact absurd hW h.ne
    | cons r W' => exact ⟨r, W', rfl⟩
  have hr := isW_ne (h.hW r (by rw [hW]; exact List.mem_cons_self))
  have e0 : rs ++ X = a ++ (W ++ (b ++ X)) := by rw [h.eq, List.append_assoc, List.append_assoc]
  have hsk : skipS (W ++ (b ++ X)) = W ++ (b ++ X) := by
    rw [hW]
    exact List.dropWhile_cons_of_neg (by rw [hr.2.2.2.2.2]; decide)
  have hs : ∀ ch : Int, ch ≠ r → signS ch (W ++ (b ++ X)) = false := fun ch hc => by
    unfold signS
    rw [hsk, hW]
    show (some r == some ch) = false
    simpa using fun e => hc e.symm
  have haf : ∀ ch : Int, ch ≠ r → afterS ch (W ++ (b ++ X)) = W ++ (b ++ X) := fun ch hc => by rw [afterS_no (by rw [hs ch hc]; decide), hsk]
  have hnw : ∀ x, (b ++ X).head? = some x → isW x = false ∧ x ≠ 58 := by
    intro x hx
    cases hb : b with
    | nil =>
      rw [hb] at hx
      have := hX.head x hx
      subst this
      exact ⟨by decide, by decide⟩
    | cons y b' =>
      rw [hb] at hx
      injection hx with hx
      subst hx
      have := isBl_not (h.hb y (by rw [hb]; exact List.mem_cons_self))
      exact ⟨this.1, this.2.2⟩
  have htw : (W ++ (b ++ X)).takeWhile isW = W ∧ (W ++ (b ++ X)).dropWhile isW = b ++ X := by
    have hall := h.hW
    clear hW hr hsk hs haf e0
    have hne := h.ne
    clear h
    clear hne
    induction W with
    | nil =>
      rw [List.nil_append]
      cases hb : b ++ X with
      | nil => exact ⟨rfl, rfl⟩
      | cons y t =>
        have := (hnw y (by rw [hb]; rfl)).1
        rw [List.takeWhile_cons_of_neg (by rw [this]; decide), List.dropWhile_cons_of_neg (by rw [this]; decide)]
        exact ⟨rfl, rfl⟩
    | cons y W ih =>
      have hy := hall y List.mem_cons_self
      have := ih (fun r hr => hall r (List.mem_cons_of_mem _ hr))
      rw [List.cons_append, List.takeWhile_cons_of_pos hy, List.dropWhile_cons_of_pos hy, this.1, this.2]
      exact ⟨rfl, rfl⟩
  have hts : (textS W).size ≠ 0 := by
    rw [textS_size, hW, textB_cons, List.length_append]
    have := encB_pos r
    omega
  have hlf : leafS (W ++ (b ++ X)) = .ok (leafN 0 (textS W), b ++ X) := by
    unfold leafS
    have hf : fieldS (W ++ (b ++ X)) = none := by
      unfold fieldS
      dsimp only
      rw [htw.1, htw.2]
      refine if_neg ?_
      rintro ⟨_, _, _, g⟩
      cases hh : (b ++ X).head? with
      | none => rw [hh] at g; simp at g
      | some x => rw [hh] at g; exact (hnw x hh).2 g
    rw [hf]
    dsimp only
    rw [htw.1, htw.2]
    unfold leafTS
    rw [if_pos hts]
  rw [e0, h.ha.not]
  cases m with
  | zero =>
    unfold notS
    rw [hs 33 hr.1.symm, if_neg (by decide), haf 33 hr.1.symm, hs 40 hr.2.1.symm, if_neg (by decide), haf 40 hr.2.1.symm, hlf]
  | succ m =>
    unfold notS
    rw [hs 33 hr.1.symm, if_neg (by decide), haf 33 hr.1.symm, hs 40 hr.2.1.symm, if_neg (by decide), haf 40 hr.2.1.symm, hlf]
theorem sign_hd (ch : Int) (l : List Int) (h : isBl ch = false) (c : Int) : signS c (ch :: l) = (ch == c) ∧ (ch = c → afterS c (ch :: l) = l) ∧ (ch ≠ c → afterS c (ch :: l) = ch :: l) := by
  have hsk : skipS (ch :: l) = ch :: l := List.dropWhile_cons_of_neg (by rw [h]; decide)
  have h1 : signS c (ch :: l) = (ch == c) := by unfold signS; rw [hsk]; rfl
  refine ⟨h1, fun e => ?_, fun e => ?_⟩
  · unfold afterS
    rw [h1, hsk, e]
    simp
  · rw [afterS_no (by rw [h1]; simpa using e), hsk]
theorem brk_ok {rs a W b0 : List Int} (h : Shape rs a W b0) : ∀ (b m : Nat) (X : List Int), closing X → b ≤ m → ∃ Z, blL Z ∧ notS m (brk b rs X) = .ok (leafN 0 (textS W), Z ++ X)
  | 0, m, X, hX, _ => ⟨b0, h.hb, word_leaf h hX m⟩
  | b + 1, 0, X, hX, hb => by omega
  | b + 1, m + 1, X, hX, hb => by
    obtain ⟨Z, hZ, hn⟩ := brk_ok h b m (41 :: X) (Or.inr ⟨X, rfl⟩) (by omega)
    have ho := orOf_cl hn hZ (Or.inr ⟨X, rfl⟩)
    obtain ⟨s1, _, s3⟩ := sign_hd 40 (brk b rs (41 :: X)) (by decide) 33
    obtain ⟨t1, t2, _⟩ := sign_hd 40 (brk b rs (41 :: X)) (by decide) 40
    obtain ⟨u1, u2, _⟩ := sign_hd 41 X (by decide) 41
    refine ⟨[], blL_nil, ?_⟩
    rw [brk_succ]
    unfold notS
    rw [s1, if_neg (by decide), s3 (by decide), t1, if_pos (by decide), t2 rfl, ho]
    dsimp only
    rw [u1, if_pos (by decide), u2 rfl]; rfl
theorem brk_err {rs : List Int} : ∀ (b m : Nat) (X : List Int), m < b → notS m (brk b rs X) = .error 9
  | 0, m, X, hb => absurd hb (Nat.not_lt_zero _)
  | b + 1, 0, X, hb => by
    obtain ⟨s1, _, s3⟩ := sign_hd 40 (brk b rs (41 :: X)) (by decide) 33
    obtain ⟨t1, t2, _⟩ := sign_hd 40 (brk b rs (41 :: X)) (by decide) 40
    rw [brk_succ]
    unfold notS
    rw [s1, if_neg (by decide), s3 (by decide), t1, if_pos (by decide)]
  | b + 1, m + 1, X, hb => by
    obtain ⟨s1, _, s3⟩ := sign_hd 40 (brk b rs (41 :: X)) (by decide) 33
    obtain ⟨t1, t2, _⟩ := sign_hd 40 (brk b rs (41 :: X)) (by decide) 40
    have ho := orOf_err (brk_err (rs := rs) b m (41 :: X) (by omega))
    rw [brk_succ]
    unfold notS
    rw [s1, if_neg (by decide), s3 (by decide), t1, if_pos (by decide), t2 rfl, ho]
theorem nots_ok {rs a W b0 : List Int} (h : Shape rs a W b0) (b : Nat) : ∀ (n m : Nat) , n + b ≤ m → ∃ Z, blL Z ∧ notS m (List.replicate n 33 ++ brk b rs []) = .ok (nestN n (leafN 0 (textS W)), Z ++ [])
  | 0, m, hb => by
    obtain ⟨Z, hZ, hn⟩ := brk_ok h b m [] (Or.inl rfl) (by omega)
    exact ⟨Z, hZ, hn⟩
  | n + 1, 0, hb => by omega
  | n + 1, m + 1, hb => by
    obtain ⟨Z, hZ, hn⟩ := nots_ok h b n m (by omega)
    obtain ⟨s1, s2, _⟩ := sign_hd 33 (List.replicate n 33 ++ brk b rs []) (by decide) 33
    refine ⟨Z, hZ, ?_⟩
    rw [List.replicate_succ, List.cons_append]
    unfold notS
    rw [s1, if_pos (by decide), s2 rfl, hn]; rfl
theorem nots_err {rs : List Int} (b : Nat) : ∀ (n m : Nat), m < n + b → notS m (List.replicate n 33 ++ brk b rs []) = .error 9
  | 0, m, hb => brk_err b m [] (by omega)
  | n + 1, 0, hb => by
    obtain ⟨s1, s2, _⟩ := sign_hd 33 (List.replicate n 33 ++ brk b rs []) (by decide) 33
    rw [List.replicate_succ, List.cons_append]
    unfold notS
    rw [s1, if_pos (by decide)]
  | n + 1, m + 1, hb => by
    have ih := nots_err (rs := rs) b n m (by omega)
    obtain ⟨s1, s2, _⟩ := sign_hd 33 (List.replicate n 33 ++ brk b rs []) (by decide) 33
    rw [List.replicate_succ, List.cons_append]
    unfold notS
    rw [s1, if_pos (by decide), s2 rfl, ih]
theorem parse_nest {rs a W b0 : List Int} (h : Shape rs a W b0) (b n : Nat) : parseR (List.replicate n 33 ++ brk b rs []) = if 8 < n + b then .error 9 else .ok (nestN n (leafN 0 (textS W)), 10, 0) := by
  unfold parseR rootS
  by_cases hb : 8 < n + b
  · rw [if_pos hb, orOf_err (nots_err b n 8 hb)]
  · obtain ⟨Z, hZ, hn⟩ := nots_ok h b n 8 (by omega)
    rw [if_neg hb, orOf_cl hn hZ (Or.inl rfl)]
    rfl

/-- the text of it -/
def brkT : Nat → ByteArray → ByteArray
  | 0, s => s
  | b + 1, s => (⟨#[40]⟩ : ByteArray) ++ brkT b s ++ (⟨#[41]⟩ : ByteArray)
def notT : Nat → ByteArray → ByteArray
  | 0, s => s
  | n + 1, s => (⟨#[33]⟩ : ByteArray) ++ notT n s
theorem brkT_bytes (s : ByteArray) : ∀ b, (brkT b s).data.toList = List.replicate b 40 ++ (s.data.toList ++ List.replicate b 41)
  | 0 => by simp [brkT]
  | b + 1 => by
    have e : (brkT (b + 1) s).data.toList = 40 :: ((brkT b s).data.toList ++ [41]) := by simp [brkT]
    rw [e, brkT_bytes s b, List.replicate_succ, List.replicate_succ']
    simp
theorem notT_bytes (s : ByteArray) : ∀ n, (notT n s).data.toList = List.replicate n 33 ++ s.data.toList
  | 0 => by simp [notT]
  | n + 1 => by
    have e : (notT (n + 1) s).data.toList = 33 :: (notT n s).data.toList := by simp [notT]
    rw [e, notT_bytes s n, List.replicate_succ]; rfl
theorem nestT_size (s : ByteArray) (b n : Nat) : (notT n (brkT b s)).size = n + 2 * b + s.size := by
  rw [← bsize, notT_bytes, brkT_bytes]
  simp only [List.length_append, List.length_replicate, bsize]
  omega
theorem nest_runes (s : ByteArray) (b n : Nat) : runesS (notT n (brkT b s)) = List.replicate n 33 ++ brk b (runesS s) [] := by
  rw [runesS_B, notT_bytes, brkT_bytes, ← List.append_assoc, ← List.append_assoc, List.append_assoc]
  rw [runesB_front _ _ (fun c hc => by
    rcases List.mem_append.1 hc with h | h
    · rw [List.eq_of_mem_replicate h]; decide
    · rw [List.eq_of_mem_replicate h]; decide)]
  rw [runesB_back _ (fun c hc => by rw [List.eq_of_mem_replicate hc]; decide) _ _ (Nat.le_refl _), ← runesS_B]
  unfold brk
  rw [List.map_append, List.map_replicate, List.map_replicate, List.map_replicate, List.append_nil, List.append_assoc]
  rfl
theorem parse_nests (s : ByteArray) (b n : Nat) (hs : s.size ≤ 40) (hb : b ≤ 13) (hn : n ≤ 13) (t : ByteArray) (hp : partsR (runesS s) = [(119, t)]) : ∃ x, parseS (notT n (brkT b s)) = (if 8 < n + b then .error 9 else .ok (nestN n (.mk 1 0 x []), 10, 0)) := by
  obtain ⟨a, W, b0, hS⟩ := parts_one _ _ hp
  refine ⟨(relT (wordsR 0 (runesS (textS W)))).map fun x => (0, x.1, x.2), ?_⟩
  unfold parseS
  rw [if_neg (by rw [nestT_size]; omega), nest_runes, parse_nest hS]
  rfl
end Go.Proofs.YtbepgbkbpkaodaaDoor
