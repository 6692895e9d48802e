/- Layer 11, plainly: what versions see. -/
import Derived.Test.YtjnaibmnpajfdaaTableB
import Derived.Test.YtjnaibmnpajfdaaPlainT
namespace Go.Proofs.Ytjnaibmnpajfdaa
open Go.RowKit

structure RowM where
  birth : Int
  id : Int
  len : Int
  tomb : Int

/-- a table of 16 rows at cell 0 -/
structure TabAt (cs : List Int) (rows : List RowM) : Prop where
  len : cs.length = 64
  le : rows.length ≤ 16
  row : ∀ d x, rows[d]? = some x → cs.getD (4 * d) 0 = x.birth ∧ cs.getD (4 * d + 1) 0 = x.id ∧ cs.getD (4 * d + 2) 0 = x.len ∧ cs.getD (4 * d + 3) 0 = x.tomb
  rest : ∀ i, 4 * rows.length ≤ i → cs.getD i 0 = 0

def seenL : List RowM → Int → Nat → List SeenM
  | [], _, _ => []
  | x :: xs, k, d => if x.birth = 0 ∨ k < x.birth then [] else if x.tomb ≠ 0 ∧ x.tomb ≤ k then seenL xs k (d + 1) else ⟨d, x.id, x.len⟩ :: seenL xs k (d + 1)

theorem seenT_ideal (cs : List Int) (rows : List RowM) (k : Int) (h : TabAt cs rows) : ∀ (n d : Nat) (acc : List SeenM), d + n = 16 → d ≤ rows.length →
    ∃ cnt, cnt ≤ 4 * n ∧ (seenT 0 k n d acc).ideal cs = some (acc ++ seenL (rows.drop d) k d, cs, cnt)
  | 0, d, acc, hd, hr => by
    have := h.le
    refine ⟨0, Nat.le_refl _, ?_⟩
    rw [List.drop_of_length_le (by omega)]
    show some (acc, cs, 0) = _
    rw [seenL, List.append_nil]
  | n + 1, d, acc, hd, hr => by
    have hl := h.len
    unfold seenT Tree.ideal
    rw [if_pos (by omega), show ((0 : Int) + 4 * d + 0).toNat = 4 * d by omega]
    show ∃ cnt, cnt ≤ 4 * (n + 1) ∧ ((if false = true ∨ cs.getD (4 * d) 0 = 0 ∨ k < cs.getD (4 * d) 0 then Tree.ret acc else _ : Tree (List SeenM)).ideal cs).map _ = _
    rcases Nat.lt_or_ge d rows.length with hlt | hge
    · obtain ⟨e0, e1, e2, e3⟩ := h.row d rows[d] (List.getElem?_eq_getElem hlt)
      have hdr : rows.drop d = rows[d] :: rows.drop (d + 1) := List.drop_eq_getElem_cons hlt
      rw [hdr, e0]
      unfold seenL
      by_cases hst : rows[d].birth = 0 ∨ k < rows[d].birth
      · rw [if_pos (Or.inr hst), if_pos hst, List.append_nil]
        exact ⟨1, by omega, rfl⟩
      · rw [if_neg (by rintro (h | h); cases h; exact hst h), if_neg hst]
        unfold Tree.ideal
        rw [if_pos (by omega), show ((0 : Int) + 4 * d + 3).toNat = 4 * d + 3 by omega, e3]
        dsimp only
        by_cases hd2 : rows[d].tomb ≠ 0 ∧ rows[d].tomb ≤ k
        · rw [if_pos hd2, if_pos hd2]
          obtain ⟨cnt, hc, hi⟩ := seenT_ideal cs rows k h n (d + 1) acc (by omega) (by omega)
          rw [hi]
          exact ⟨cnt + 1 + 1, by omega, rfl⟩
        · rw [if_neg hd2, if_neg hd2]
          unfold Tree.ideal
          rw [if_pos (by omega), show ((0 : Int) + 4 * d + 1).toNat = 4 * d + 1 by omega, e1]
          dsimp only
          unfold Tree.ideal
          rw [if_pos (by omega), show ((0 : Int) + 4 * d + 2).toNat = 4 * d + 2 by omega, e2]
          dsimp only
          obtain ⟨cnt, hc, hi⟩ := seenT_ideal cs rows k h n (d + 1) (acc ++ [⟨d, rows[d].id, rows[d].len⟩]) (by omega) (by omega)
          rw [hi]
          refine ⟨cnt + 1 + 1 + 1 + 1, by omega, ?_⟩
          simp
    · have e0 := h.rest (4 * d) (by omega)
      rw [e0, if_pos (Or.inr (Or.inl rfl)), List.drop_of_length_le hge]
      refine ⟨1, by omega, ?_⟩
      show some (acc, cs, 1) = _
      rw [seenL, List.append_nil]

/-- the rows were laid by versions up to v -/
def Born (rows : List RowM) (v : Int) : Prop := ∀ x ∈ rows, 1 ≤ x.birth ∧ x.birth ≤ v ∧ 0 ≤ x.tomb ∧ x.tomb ≤ v ∧ U32 x.id ∧ U32 x.len

theorem seenL_add : ∀ (rows : List RowM) (k v : Int) (d : Nat) (id ln : Int), k ≤ v → seenL (rows ++ [⟨v + 1, id, ln, 0⟩]) k d = seenL rows k d
  | [], k, v, d, id, ln, h => by
    show (if v + 1 = 0 ∨ k < v + 1 then [] else _) = []
    rw [if_pos (by omega)]
  | x :: xs, k, v, d, id, ln, h => by
    show (if x.birth = 0 ∨ k < x.birth then [] else if x.tomb ≠ 0 ∧ x.tomb ≤ k then seenL (xs ++ [⟨v + 1, id, ln, 0⟩]) k (d + 1) else ⟨d, x.id, x.len⟩ :: seenL (xs ++ [⟨v + 1, id, ln, 0⟩]) k (d + 1)) = _
    rw [seenL_add xs k v (d + 1) id ln h]
    rfl
theorem seenL_kill : ∀ (rows : List RowM) (k v : Int) (d i : Nat) (x : RowM), k ≤ v → rows[i]? = some x → x.tomb = 0 → 0 ≤ v → seenL (rows.set i { x with tomb := v + 1 }) k d = seenL rows k d
  | [], k, v, d, i, x, h, hx, ht, hv => by simp at hx
  | y :: ys, k, v, d, 0, x, h, hx, ht, hv => by
    simp at hx
    subst hx
    show (if y.birth = 0 ∨ k < y.birth then [] else if v + 1 ≠ 0 ∧ v + 1 ≤ k then seenL ys k (d + 1) else ⟨d, y.id, y.len⟩ :: seenL ys k (d + 1)) =
      (if y.birth = 0 ∨ k < y.birth then [] else if y.tomb ≠ 0 ∧ y.tomb ≤ k then seenL ys k (d + 1) else ⟨d, y.id, y.len⟩ :: seenL ys k (d + 1))
    rw [if_neg (show ¬ (v + 1 ≠ 0 ∧ v + 1 ≤ k) by omega), if_neg (show ¬ (y.tomb ≠ 0 ∧ y.tomb ≤ k) from fun h => h.1 ht)]
  | y :: ys, k, v, d, i + 1, x, h, hx, ht, hv => by
    show (if y.birth = 0 ∨ k < y.birth then [] else if y.tomb ≠ 0 ∧ y.tomb ≤ k then seenL (ys.set i { x with tomb := v + 1 }) k (d + 1) else ⟨d, y.id, y.len⟩ :: seenL (ys.set i { x with tomb := v + 1 }) k (d + 1)) = _
    rw [seenL_kill ys k v (d + 1) i x h (by simpa using hx) ht hv]
    rfl

theorem TabAt.add {cs : List Int} {rows : List RowM} (h : TabAt cs rows) (hn : rows.length < 16) (id ln born : Int) : TabAt (layC cs (0 + 4 * rows.length) id ln born) (rows ++ [⟨born, id, ln, 0⟩]) := by
  have hl := h.len
  rw [Nat.zero_add]
  refine ⟨by rw [layC_len]; exact hl, by simp; omega, fun d x hx => ?_, fun i hi => ?_⟩
  · simp only [layC_get]
    rcases Nat.lt_or_ge d rows.length with hd | hd
    · rw [List.getElem?_append_left hd] at hx
      obtain ⟨e0, e1, e2, e3⟩ := h.row d x hx
      refine ⟨?_, ?_, ?_, ?_⟩
      · rw [if_neg (by omega), if_neg (by omega), if_neg (by omega)]; exact e0
      · rw [if_neg (by omega), if_neg (by omega), if_neg (by omega)]; exact e1
      · rw [if_neg (by omega), if_neg (by omega), if_neg (by omega)]; exact e2
      · rw [if_neg (by omega), if_neg (by omega), if_neg (by omega)]; exact e3
    · rw [List.getElem?_append_right hd] at hx
      have hdl : d = rows.length := by
        have := (List.getElem?_eq_some_iff.1 hx).1
        simp at this; omega
      subst hdl
      simp at hx
      subst hx
      refine ⟨?_, ?_, ?_, ?_⟩
      · rw [if_pos (by omega)]
      · rw [if_neg (by omega), if_neg (by omega), if_pos (by omega)]
      · rw [if_neg (by omega), if_pos (by omega)]
      · rw [if_neg (by omega), if_neg (by omega), if_neg (by omega)]; exact h.rest _ (by omega)
  · simp at hi
    rw [layC_get, if_neg (by omega), if_neg (by omega), if_neg (by omega)]; exact h.rest i (by omega)

theorem getD_set (cs : List Int) (a i : Nat) (v : Int) : (cs.set a v).getD i 0 = if i = a ∧ i < cs.length then v else cs.getD i 0 := by
  simp only [List.getD_eq_getElem?_getD, List.getElem?_set]
  by_cases h1 : a = i
  · subst h1
    by_cases h2 : a < cs.length
    · simp [h2]
    · rw [if_pos rfl, if_neg h2, if_neg (fun h => h2 h.2), List.getElem?_eq_none (by omega)]
  · rw [if_neg h1, if_neg (fun h => h1 h.1.symm)]

theorem TabAt.kill {cs : List Int} {rows : List RowM} (h : TabAt cs rows) (i : Nat) (x : RowM) (hx : rows[i]? = some x) (t : Int) : TabAt (cs.set (4 * i + 3) t) (rows.set i { x with tomb := t }) := by
  have hl := h.len
  have hi := (List.getElem?_eq_some_iff.1 hx).1
  have hle := h.le
  refine ⟨by rw [List.length_set]; exact hl, by simpa using hle, fun d y hy => ?_, fun j hj => ?_⟩
  · simp only [getD_set]
    by_cases hd : d = i
    · subst hd
      rw [List.getElem?_set_self hi] at hy
      injection hy with hy
      subst hy
      obtain ⟨e0, e1, e2, e3⟩ := h.row d x hx
      refine ⟨?_, ?_, ?_, ?_⟩
      · rw [if_neg (by omega)]; exact e0
      · rw [if_neg (by omega)]; exact e1
      · rw [if_neg (by omega)]; exact e2
      · rw [if_pos (by omega)]
    · rw [List.getElem?_set_ne (fun e => hd e.symm)] at hy
      obtain ⟨e0, e1, e2, e3⟩ := h.row d y hy
      refine ⟨?_, ?_, ?_, ?_⟩
      · rw [if_neg (by omega)]; exact e0
      · rw [if_neg (by omega)]; exact e1
      · rw [if_neg (by omega)]; exact e2
      · rw [if_neg (by omega)]; exact e3
  · simp at hj
    rw [getD_set, if_neg (by omega)]; exact h.rest j hj

theorem killT_ideal (cs : List Int) (d : Nat) (v : Int) (h : 4 * d + 3 < cs.length) : (killT 0 d v).ideal cs = some ((), cs.set (4 * d + 3) v, 1) := by
  unfold killT Tree.ideal
  rw [if_pos (by omega)]
  unfold Tree.ideal
  rw [show ((0 : Int) + 4 * d + 3).toNat = 4 * d + 3 by omega]
  rfl
end Go.Proofs.Ytjnaibmnpajfdaa
