/- Layer 17: what is shown of a query is read as it: words, and the texts as runes; in plain terms. -/
import Derived.Test.YtbepgbkbpkaodaaDoorShowE
import Derived.Test.YtbepgbkbpkaodaaDoorBlankP
import Derived.Test.YtbepgbkbpkaodaaDoorShowL
namespace Go.Proofs.YtbepgbkbpkaodaaDoor
open Go.RowKit

set_option maxRecDepth 100000 in
theorem fold_small : (List.range 1642).all (fun n => foldM (foldM (n : Int)) == foldM (n : Int) && (!isW (n : Int) || isW (foldM (n : Int)))) = true := by kernel_rfl
theorem fold_big {r : Int} (h : r < 0 ∨ 1642 ≤ r) : foldM r = r := by
  rw [foldM_ifs]
  omega
theorem fold_both (r : Int) : foldM (foldM r) = foldM r ∧ (isW r = true → isW (foldM r) = true) := by
  by_cases h : r < 0 ∨ 1642 ≤ r
  · rw [fold_big h, fold_big h]; exact ⟨rfl, fun h => h⟩
  · obtain ⟨n, rfl⟩ := Int.eq_ofNat_of_zero_le (by omega : 0 ≤ r)
    have := List.all_eq_true.1 fold_small n (List.mem_range.2 (by omega))
    rw [Bool.and_eq_true, beq_iff_eq, Bool.or_eq_true] at this
    refine ⟨this.1, fun hw => ?_⟩
    rcases this.2 with h | h
    · rw [hw] at h; cases h
    · exact h
theorem fold_idemW (r : Int) : foldM (foldM r) = foldM r := (fold_both r).1
theorem fold_isWW {r : Int} (h : isW r = true) : isW (foldM r) = true := (fold_both r).2 h
theorem textB_app (a b : List Int) : textB (a ++ b) = textB a ++ textB b := by unfold textB; simp
theorem fitL_pre (n : Nat) : ∀ (l : List Int) (acc : List UInt8), ∃ k, fitL n acc l = acc ++ textB (l.take k) ∧ (acc.length ≤ n → (fitL n acc l).length ≤ n)
  | [], acc => ⟨0, by show acc = acc ++ []; rw [List.append_nil], fun h => h⟩
  | r :: l, acc => by
    rw [fitL_cons]
    split
    · exact ⟨0, by show acc = acc ++ []; rw [List.append_nil], fun h => h⟩
    · rename_i hc
      obtain ⟨k, h1, h2⟩ := fitL_pre n l (acc ++ encB r)
      refine ⟨k + 1, ?_, fun _ => h2 (by rw [List.length_append]; omega)⟩
      rw [h1, List.take_succ_cons, textB_cons, List.append_assoc]
theorem fitL_all (n : Nat) : ∀ (l : List Int) (acc : List UInt8), acc.length + (textB l).length ≤ n → fitL n acc l = acc ++ textB l
  | [], acc, _ => by show acc = acc ++ []; rw [List.append_nil]
  | r :: l, acc, h => by
    rw [textB_cons, List.length_append] at h
    rw [fitL_cons, if_neg (by omega), fitL_all n l _ (by rw [List.length_append]; omega), textB_cons, List.append_assoc]
/-- a term: its runes -/
structure TermZ (t : ByteArray) (ws : List Int) : Prop where
  txt : t = textS ws
  ne : ws ≠ []
  w : ∀ r ∈ ws, isW r = true ∧ valR r
  term : termP ws = t
  run : runesS t = ws
theorem termP_z (v : List Int) (hne : v ≠ []) (hw : ∀ r ∈ v, isW r = true) : ∃ ws, TermZ (termP v) ws ∧ ws.length ≤ v.length ∧ (termP v).size ≤ 16 := by
  obtain ⟨k, h1, h2⟩ := fitL_pre 16 (v.map foldM) []
  rw [List.nil_append] at h1
  have h2 := h2 (Nat.zero_le _)
  have hall : ∀ r ∈ (v.map foldM).take k, isW r = true ∧ valR r ∧ foldM r = r := fun r hr => by
    obtain ⟨x, hx, rfl⟩ := List.mem_map.1 (List.mem_of_mem_take hr)
    exact ⟨fold_isWW (hw x hx), word_valR (hw x hx), fold_idemW x⟩
  have ht : termP v = textS ((v.map foldM).take k) := by rw [termP_fit v hw, h1]; rfl
  have hlen : ((v.map foldM).take k).length ≤ v.length := by rw [List.length_take, List.length_map]; omega
  have hpos : (v.map foldM).take k ≠ [] := fun e => by
    rw [e] at h1
    cases v with
    | nil => exact hne rfl
    | cons a v =>
      rw [List.map_cons, fitL_cons] at h1
      have h4 := encB_four (foldM a)
      have h5 := encB_pos (foldM a)
      rw [if_neg (by simp; omega)] at h1
      obtain ⟨k', h6, _⟩ := fitL_pre 16 (v.map foldM) ([] ++ encB (foldM a))
      rw [h6] at h1
      have := congrArg List.length h1
      rw [List.length_append, List.length_append] at this
      have e0 : (textB ([] : List Int)).length = 0 := rfl
      rw [e0] at this
      omega
  rw [h1] at h2
  rw [ht]
  generalize (v.map foldM).take k = ws at *
  have hfix : ws.map foldM = ws := by
    have : ws.map foldM = ws.map id := List.map_congr_left fun r hr => (hall r hr).2.2
    rw [this, List.map_id]
  refine ⟨ws, ⟨rfl, hpos, fun r hr => ⟨(hall r hr).1, (hall r hr).2.1⟩, ?_, ?_⟩, hlen, h2⟩
  · rw [termP_fit ws fun r hr => (hall r hr).1, hfix, fitL_all 16 ws [] (by rw [List.length_nil]; omega)]
    rfl
  · rw [runesS_B]
    exact runes_textV ws fun r hr => (hall r hr).2.1
theorem tw_allW : ∀ (l : List Int) (rest : List Int), (∀ r ∈ l, isW r = true) → (∀ r, rest.head? = some r → isW r = false) → (l ++ rest).takeWhile isW = l ∧ (l ++ rest).dropWhile isW = rest
  | [], rest, _, h => by
    cases rest with
    | nil => exact ⟨rfl, rfl⟩
    | cons a r =>
      have ha := h a rfl
      exact ⟨List.takeWhile_cons_of_neg (by rw [ha]; decide), List.dropWhile_cons_of_neg (by rw [ha]; decide)⟩
  | a :: l, rest, hl, h => by
    have ha := hl a (List.mem_cons_self ..)
    obtain ⟨h1, h2⟩ := tw_allW l rest (fun r hr => hl r (List.mem_cons_of_mem _ hr)) h
    rw [List.cons_append, List.takeWhile_cons_of_pos ha, List.dropWhile_cons_of_pos ha, h1, h2]
    exact ⟨rfl, rfl⟩
/-- the words that stand first -/
theorem wordsR_mem : ∀ (N : Nat) (l : List Int) (p : Nat), l.length ≤ N → ∀ x ∈ wordsR p l, ∃ v, v ≠ [] ∧ (∀ r ∈ v, isW r = true) ∧ x.1 = termP v ∧ stopP x.1 = false ∧ p ≤ x.2
  | _, [], p, _, x, hx => by rw [wordsR_nil] at hx; cases hx
  | 0, r :: l, _, h, _, _ => by simp at h
  | N + 1, r :: l, p, h, x, hx => by
    rw [List.length_cons] at h
    rw [wordsR_cons] at hx
    have hd := dw_len l
    have he : ((r :: l).dropWhile isW).drop 1 = (l.dropWhile isW).drop 1 ∨ isW r = false := by
      cases hr : isW r with
      | true => rw [List.dropWhile_cons_of_pos hr]; exact Or.inl rfl
      | false => exact Or.inr rfl
    by_cases hr : isW r = true
    · rw [if_pos hr] at hx
      by_cases hs : stopP (termP (r :: l.takeWhile isW)) = true
      · rw [if_pos hs] at hx
        obtain ⟨v, h1, h2, h3, h4, h5⟩ := wordsR_mem N _ (p + 1) (by omega) x hx
        exact ⟨v, h1, h2, h3, h4, by omega⟩
      · rw [if_neg hs] at hx
        rcases List.mem_cons.1 hx with rfl | hx
        · refine ⟨r :: l.takeWhile isW, List.cons_ne_nil _ _, fun y hy => ?_, rfl, by simpa using hs, Nat.le_refl _⟩
          rcases List.mem_cons.1 hy with rfl | hy
          · exact hr
          · exact tw_all isW l y hy
        · obtain ⟨v, h1, h2, h3, h4, h5⟩ := wordsR_mem N _ (p + 1) (by omega) x hx
          exact ⟨v, h1, h2, h3, h4, by omega⟩
    · rw [if_neg hr] at hx
      exact wordsR_mem N l p (by omega) x hx
theorem wordOk_z {t : ByteArray} (h : wordOk t = true) : ∃ ws, TermZ t ws ∧ stopP t = false ∧ ws.length ≤ 16 := by
  unfold wordOk at h
  rw [Bool.and_eq_true, beq_iff_eq, beq_iff_eq] at h
  obtain ⟨h1, h2⟩ := h
  cases hw : wordsR 0 (runesS t) with
  | nil => rw [hw] at h1; cases h1
  | cons x l =>
    rw [hw] at h2
    have h2 : x.1.toList = t.toList := h2
    have h3 : x.1 = t := by
      rw [ByteArray.toList_eq, ByteArray.toList_eq] at h2
      exact (ba_eq h2).trans (ba_eq rfl).symm
    obtain ⟨v, g1, g2, g3, g4, _⟩ := wordsR_mem _ _ 0 (Nat.le_refl _) x (by rw [hw]; exact List.mem_cons_self ..)
    obtain ⟨ws, g5, _, g6⟩ := termP_z v g1 g2
    rw [← g3, h3] at g5 g6
    rw [h3] at g4
    refine ⟨ws, g5, g4, ?_⟩
    rw [g5.txt] at g6
    have h7 : ∀ l : List Int, l.length ≤ (textB l).length := by
      intro l
      induction l with
      | nil => exact Nat.zero_le _
      | cons a l ih => rw [textB_cons, List.length_append, List.length_cons]; have := encB_pos a; omega
    have := h7 ws
    have g6 : (textB ws).length ≤ 16 := g6
    omega
theorem TermZ.words {t : ByteArray} {ws : List Int} (h : TermZ t ws) (hs : stopP t = false) (p : Nat) (rest : List Int) (hr : ∀ r, rest.head? = some r → isW r = false) : wordsR p (ws ++ rest) = (t, p) :: wordsR (p + 1) (rest.drop 1) := by
  obtain ⟨a, l, rfl⟩ : ∃ a l, ws = a :: l := by
    cases hws : ws with
    | nil => exact absurd hws h.ne
    | cons a l => exact ⟨a, l, rfl⟩
  obtain ⟨h1, h2⟩ := tw_allW (a :: l) rest (fun r hr => (h.w r hr).1) hr
  rw [wordsR_word (List.cons_append ..) (h.w a (List.mem_cons_self ..)).1, h1, h2, h.term, if_neg (by rw [hs]; decide)]
theorem words_a (p : Nat) (rest : List Int) (hr : ∀ r, rest.head? = some r → isW r = false) : wordsR p (97 :: rest) = wordsR (p + 1) (rest.drop 1) := by
  obtain ⟨h1, h2⟩ := tw_allW [97] rest (fun r hr => by rw [List.mem_singleton] at hr; subst hr; rfl) hr
  rw [wordsR_word (D := 97 :: rest) rfl (by rfl)]
  have h1 : (97 :: rest).takeWhile isW = [97] := h1
  have h2 : (97 :: rest).dropWhile isW = rest := h2
  rw [h1, h2, if_pos (by kernel_rfl)]
def jz (sep : List Int) : List (List Int) → List Int
  | [] => []
  | x :: r => x ++ (r.map (sep ++ ·)).flatten
def outZ : Int → List (Int × ByteArray × Int) → List (List Int)
  | _, [] => []
  | p, (_, tt, tp) :: ts => List.replicate (tp - p).toNat [97] ++ runesS tt :: outZ (tp + 1) ts
def leafQZ (ts : List (Int × ByteArray × Int)) : List Int := jz [32] (outZ 0 ts)
theorem jz_cons2 (sep : List Int) (x y : List Int) (r : List (List Int)) : jz sep (x :: y :: r) = x ++ (sep ++ jz sep (y :: r)) := by
  unfold jz
  simp
/-- what 'termsOk' says of the first -/
theorem termsOk_cons {f p tf tp : Int} {tt : ByteArray} {ts : List (Int × ByteArray × Int)} (h : termsOk f p ((tf, tt, tp) :: ts) = true) : tf = f ∧ wordOk tt = true ∧ p ≤ tp ∧ tp ≤ 256 ∧ termsOk f (tp + 1) ts = true := by
  have h0 : termsOk f p ((tf, tt, tp) :: ts) = (tf == f && wordOk tt && decide (p ≤ tp) && decide (tp ≤ 256) && termsOk f (tp + 1) ts) := rfl
  rw [h0, Bool.and_eq_true, Bool.and_eq_true, Bool.and_eq_true, Bool.and_eq_true, decide_eq_true_eq, decide_eq_true_eq, beq_iff_eq] at h
  exact ⟨h.1.1.1.1, h.1.1.1.2, h.1.1.2, h.1.2, h.2⟩
theorem jz_head {sep : List Int} {x : List Int} {r : List (List Int)} (hx : x ≠ []) : (jz sep (x :: r)).head? = x.head? := by
  cases x with
  | nil => exact absurd rfl hx
  | cons a l => rfl
theorem words_as : ∀ (k p : Nat) (x : List Int) (r : List (List Int)), wordsR p (jz [32] (List.replicate k [97] ++ x :: r)) = wordsR (p + k) (jz [32] (x :: r))
  | 0, p, x, r => rfl
  | k + 1, p, x, r => by
    obtain ⟨y, l, hy⟩ : ∃ y l, List.replicate k [97] ++ x :: r = y :: l := by
      cases k with
      | zero => exact ⟨x, r, rfl⟩
      | succ k => exact ⟨[97], List.replicate k [97] ++ x :: r, rfl⟩
    have ih := words_as k (p + 1) x r
    rw [List.replicate_succ, List.cons_append, hy, jz_cons2]
    rw [hy] at ih
    show wordsR p (97 :: ([32] ++ jz [32] (y :: l))) = _
    rw [words_a p ([32] ++ jz [32] (y :: l)) (fun r hr => by injection hr with hr; subst hr; rfl)]
    show wordsR (p + 1) (jz [32] (y :: l)) = _
    rw [ih]
    congr 1
    omega
theorem words_terms (f : Int) : ∀ (ts : List (Int × ByteArray × Int)) (p : Nat), termsOk f (p : Int) ts = true → wordsR p (jz [32] (outZ (p : Int) ts)) = ts.map fun t => (t.2.1, t.2.2.toNat)
  | [], p, _ => rfl
  | (tf, tt, tp) :: ts, p, h => by
    obtain ⟨_, h1, h2, h3, h4⟩ := termsOk_cons h
    obtain ⟨q, rfl⟩ := Int.eq_ofNat_of_zero_le (by omega : 0 ≤ tp)
    obtain ⟨ws, g1, g2, g3⟩ := wordOk_z h1
    have he : outZ (p : Int) ((tf, tt, (q : Int)) :: ts) = List.replicate ((q : Int) - (p : Int)).toNat [97] ++ runesS tt :: outZ ((q : Int) + 1) ts := rfl
    have ih := words_terms f ts (q + 1) (by exact h4)
    rw [he, words_as, show p + ((q : Int) - (p : Int)).toNat = q by omega, g1.run]
    have e1 : ((q + 1 : Nat) : Int) = (q : Int) + 1 := by omega
    rw [e1] at ih
    have hmap : ((tf, tt, (q : Int)) :: ts).map (fun t => (t.2.1, t.2.2.toNat)) = (tt, q) :: ts.map (fun t => (t.2.1, t.2.2.toNat)) := rfl
    rw [hmap, ← ih]
    cases hz : outZ ((q : Int) + 1) ts with
    | nil =>
      have := g1.words g2 q [] (fun r hr => by cases hr)
      rw [List.append_nil] at this
      show wordsR q (ws ++ []) = _
      rw [List.append_nil, this]
      rfl
    | cons y l =>
      rw [jz_cons2]
      exact g1.words g2 q ([32] ++ jz [32] (y :: l)) (fun r hr => by injection hr with hr; subst hr; rfl)
theorem outZ_mem (f : Int) : ∀ (ts : List (Int × ByteArray × Int)) (p : Int), termsOk f p ts = true → ∀ x ∈ outZ p ts, ∀ r ∈ x, isW r = true ∧ valR r
  | [], _, _, x, hx => by cases hx
  | (tf, tt, tp) :: ts, p, h, x, hx => by
    obtain ⟨_, h1, h2, h3, h4⟩ := termsOk_cons h
    obtain ⟨ws, g1, g2, g3⟩ := wordOk_z h1
    have he : outZ p ((tf, tt, tp) :: ts) = List.replicate (tp - p).toNat [97] ++ runesS tt :: outZ (tp + 1) ts := rfl
    rw [he] at hx
    rcases List.mem_append.1 hx with hx | hx
    · rw [(List.mem_replicate.1 hx).2]
      intro r hr
      rw [List.mem_singleton] at hr
      subst hr
      exact ⟨rfl, by decide, by decide⟩
    · rcases List.mem_cons.1 hx with rfl | hx
      · rw [g1.run]; exact g1.w
      · exact outZ_mem f ts (tp + 1) h4 x hx
theorem jz_mem {sep : List Int} {P : Int → Prop} (hs : ∀ r ∈ sep, P r) {xs : List (List Int)} (h : ∀ x ∈ xs, ∀ r ∈ x, P r) : ∀ r ∈ jz sep xs, P r := by
  intro r hr
  cases xs with
  | nil => cases hr
  | cons x l =>
    rcases List.mem_append.1 hr with hr | hr
    · exact h x (List.mem_cons_self ..) r hr
    · obtain ⟨y, hy, hr⟩ := List.mem_flatten.1 hr
      obtain ⟨z, hz, rfl⟩ := List.mem_map.1 hy
      rcases List.mem_append.1 hr with hr | hr
      · exact hs r hr
      · exact h z (List.mem_cons_of_mem _ hz) r hr
theorem jz_text (sep : List Int) : ∀ (xs : List (List Int)), textB (jz sep xs) = Lib.join (xs.map textB) (textB sep)
  | [] => rfl
  | x :: r => by
    rw [List.map_cons, Lib.join_cons]
    show textB (x ++ _) = _
    rw [textB_app]
    congr 1
    unfold Lib.joinTail
    induction r with
    | nil => rfl
    | cons y r ih =>
      rw [List.map_cons, List.flatten_cons, textB_app, textB_app, ih, List.map_cons, List.map_cons, List.flatten_cons]
theorem outZ_text (f : Int) : ∀ (ts : List (Int × ByteArray × Int)) (p : Int), termsOk f p ts = true → (outZ p ts).map textB = outL p ts
  | [], _, _ => rfl
  | (tf, tt, tp) :: ts, p, h => by
    obtain ⟨_, h1, h2, h3, h4⟩ := termsOk_cons h
    obtain ⟨ws, g1, g2, g3⟩ := wordOk_z h1
    have he : outZ p ((tf, tt, tp) :: ts) = List.replicate (tp - p).toNat [97] ++ runesS tt :: outZ (tp + 1) ts := rfl
    have he2 : outL p ((tf, tt, tp) :: ts) = List.replicate (tp - p).toNat [97] ++ tt.data.toList :: outL (tp + 1) ts := rfl
    rw [he, he2, List.map_append, List.map_cons, outZ_text f ts (tp + 1) h4, g1.run, List.map_replicate]
    congr 1
    congr 1
    rw [g1.txt]
    rfl
end Go.Proofs.YtbepgbkbpkaodaaDoor
