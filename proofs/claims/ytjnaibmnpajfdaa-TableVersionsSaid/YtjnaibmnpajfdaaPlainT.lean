/- Layer 11, plainly: rows laid one behind the other; an id's row. -/
import Derived.Test.YtjnaibmnpajfdaaTable
namespace Go.Proofs.Ytjnaibmnpajfdaa
open Go.RowKit

def layC (cs : List Int) (a : Nat) (id ln born : Int) : List Int := ((cs.set (a + 1) id).set (a + 2) ln).set a born

theorem layT_ideal (cs : List Int) (b d : Nat) (id ln born : Int) (h : b + 4 * d + 3 ≤ cs.length) : (layT b d id ln born).ideal cs = some ((), layC cs (b + 4 * d) id ln born, 3) := by
  unfold layT Tree.ideal
  rw [if_pos (by omega)]
  unfold Tree.ideal
  rw [if_pos (by rw [List.length_set]; omega)]
  unfold Tree.ideal
  rw [if_pos (by rw [List.length_set, List.length_set]; omega)]
  unfold Tree.ideal
  simp only [Option.map_some]
  rw [show ((b : Int) + 4 * d + 1).toNat = b + 4 * d + 1 by omega, show ((b : Int) + 4 * d + 2).toNat = b + 4 * d + 2 by omega, show ((b : Int) + 4 * d + 0).toNat = b + 4 * d by omega]
  rfl

theorem layC_len (cs : List Int) (a : Nat) (id ln born : Int) : (layC cs a id ln born).length = cs.length := by simp [layC]
theorem layC_get (cs : List Int) (a : Nat) (id ln born : Int) (i : Nat) : (layC cs a id ln born).getD i 0 =
    if i = a ∧ i < cs.length then born else if i = a + 2 ∧ i < cs.length then ln else if i = a + 1 ∧ i < cs.length then id else cs.getD i 0 := by
  simp only [layC, List.getD_eq_getElem?_getD, List.getElem?_set, List.length_set]
  by_cases h1 : i < cs.length
  · by_cases h2 : a = i
    · subst h2; simp [h1]
    · by_cases h3 : a + 2 = i
      · subst h3; simp [h1, h2]
      · by_cases h4 : a + 1 = i
        · subst h4; simp [h1]
        · rw [if_neg h2, if_neg h3, if_neg h4, if_neg (by omega), if_neg (by omega), if_neg (by omega)]
  · have e : cs[i]? = none := List.getElem?_eq_none (by omega)
    rw [if_neg (show ¬ (i = a ∧ i < cs.length) from fun h => h1 h.2), if_neg (show ¬ (i = a + 2 ∧ i < cs.length) from fun h => h1 h.2), if_neg (show ¬ (i = a + 1 ∧ i < cs.length) from fun h => h1 h.2), e]
    repeat' split
    all_goals first | rfl | (exfalso; omega)

/-- rows 0 .. k-1 of a table at cell 3 have these ids -/
structure LaidUp (cs : List Int) (ids : List Int) (k : Nat) : Prop where
  len : cs.length = 200
  le : k ≤ 40
  ids : ∀ d, d < k → cs.getD (3 + 4 * d + 1) 0 = ids.getD d 0

theorem LaidUp.next {cs ids : List Int} {k : Nat} (h : LaidUp cs ids k) (hk : k < 40) (ln born : Int) : LaidUp (layC cs (3 + 4 * k) (ids.getD k 0) ln born) ids (k + 1) := by
  have hl := h.len
  refine ⟨by rw [layC_len]; exact hl, by omega, fun d hd => ?_⟩
  rw [layC_get]
  rcases Nat.lt_or_ge d k with hd' | hd'
  · rw [if_neg (by omega), if_neg (by omega), if_neg (by omega)]; exact h.ids d hd'
  · have : d = k := by omega
    subst this
    rw [if_neg (by omega), if_neg (by omega), if_pos (by omega)]
theorem LaidUp.behind {cs ids : List Int} {k : Nat} (h : LaidUp cs ids k) (id ln born : Int) : LaidUp (layC cs (3 + 4 * k) id ln born) ids k := by
  refine ⟨by rw [layC_len]; exact h.len, h.le, fun d hd => ?_⟩
  rw [layC_get, if_neg (by omega), if_neg (by omega), if_neg (by omega)]; exact h.ids d hd

/-- the first one, from number d on; -1: none -/
def firstM : List Int → Int → Nat → Int
  | [], _, _ => -1
  | x :: xs, id, d => if x = id then d else firstM xs id (d + 1)
theorem firstM_snoc : ∀ (l : List Int) (id : Int) (d : Nat) (x : Int), firstM (l ++ [x]) id d = if firstM l id d < 0 ∧ x = id then ((d + l.length : Nat) : Int) else firstM l id d
  | [], id, d, x => by simp [firstM]
  | y :: l, id, d, x => by
    show (if y = id then (d : Int) else firstM (l ++ [x]) id (d + 1)) = if (if y = id then (d : Int) else firstM l id (d + 1)) < 0 ∧ x = id then _ else (if y = id then (d : Int) else firstM l id (d + 1))
    by_cases hy : y = id
    · rw [if_pos hy, if_pos hy, if_neg (by omega)]
    · rw [if_neg hy, if_neg hy, firstM_snoc l id (d + 1) x]
      have e : d + 1 + l.length = d + (y :: l).length := by simp; omega
      rw [e]
theorem firstM_range : ∀ (l : List Int) (id : Int) (d : Nat), -1 ≤ firstM l id d ∧ firstM l id d < d + l.length + 1
  | [], id, d => by simp [firstM]; omega
  | y :: l, id, d => by
    show -1 ≤ (if y = id then (d : Int) else firstM l id (d + 1)) ∧ (if y = id then (d : Int) else firstM l id (d + 1)) < _
    have := firstM_range l id (d + 1)
    split <;> simp <;> omega

theorem findT_ideal (cs ids : List Int) (id : Int) : ∀ (n d : Nat), LaidUp cs ids (d + n) → d + n = ids.length → ∃ cnt, cnt ≤ n ∧ (findT 3 id n d).ideal cs = some (firstM (ids.drop d) id d, cs, cnt)
  | 0, d, h, hl => ⟨0, Nat.le_refl _, by rw [List.drop_of_length_le (by omega)]; rfl⟩
  | n + 1, d, h, hl => by
    have hd := h.ids d (by omega)
    have hdr : ids.drop d = ids.getD d 0 :: ids.drop (d + 1) := by
      rw [List.drop_eq_getElem_cons (by omega), List.getD_eq_getElem?_getD, List.getElem?_eq_getElem (by omega)]; rfl
    obtain ⟨cnt, hc, hi⟩ := findT_ideal cs ids id n (d + 1) (by rw [show d + 1 + n = d + (n + 1) by omega]; exact h) (by omega)
    unfold findT Tree.ideal
    have := h.len
    have := h.le
    rw [if_pos (by omega), show ((3 : Int) + 4 * d + 1).toNat = 3 + 4 * d + 1 by omega, hd]
    show ∃ cnt, cnt ≤ n + 1 ∧ ((if false = true then Tree.ret (-1) else if ids.getD d 0 = id then Tree.ret (d : Int) else findT 3 id n (d + 1)).ideal cs).map _ = _
    rw [if_neg (by decide), hdr]
    show ∃ cnt, cnt ≤ n + 1 ∧ _ = some ((if ids.getD d 0 = id then (d : Int) else firstM (ids.drop (d + 1)) id (d + 1)), cs, cnt)
    by_cases hx : ids.getD d 0 = id
    · rw [if_pos hx, if_pos hx]; exact ⟨1, by omega, rfl⟩
    · rw [if_neg hx, if_neg hx, hi]; exact ⟨cnt + 1, by omega, rfl⟩
end Go.Proofs.Ytjnaibmnpajfdaa
