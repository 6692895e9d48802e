/- Plain laws: a text's bytes as cells, and a text's number. No program of the dump is named here. -/
import Derived.RowKit
namespace Go.Proofs.Ytbmgmjfpoepgpaa
open Go.RowKit

/-- a text's bytes -/
def bsL (s : ByteArray) : List Int := s.data.toList.map fun b => (b.toNat : Int)
theorem bsL_len (s : ByteArray) : (bsL s).length = s.size := by simp [bsL]
theorem bsL_range (s : ByteArray) : ∀ x ∈ bsL s, 0 ≤ x ∧ x ≤ 255 := by
  intro x hx
  simp only [bsL, List.mem_map] at hx
  obtain ⟨b, _, rfl⟩ := hx
  have := b.toNat_lt
  omega
theorem bsL_get (s : ByteArray) (i : Nat) (h : i < s.size) : (bsL s).getD i 0 = (s[i].toNat : Int) := by
  have h1 : i < (bsL s).length := by rw [bsL_len]; exact h
  rw [List.getD_eq_getElem?_getD, List.getElem?_eq_getElem h1]
  simp [bsL]
  rfl
theorem bsL_inj {s t : ByteArray} (h : bsL s = bsL t) : s = t := by
  have : s.data.toList = t.data.toList := by
    unfold bsL at h
    refine List.map_inj_right ?_ |>.1 h
    intro x y e
    have e : (x.toNat : Int) = y.toNat := e
    exact UInt8.toNat_inj.1 (by omega)
  have h2 : s.data = t.data := Array.toList_inj.1 this
  cases s; cases t; simp_all

/-- the j-th cell of the first i bytes -/
def pc (l : List Int) (i j : Nat) : Int :=
  (if 4 * j < i then l.getD (4 * j) 0 else 0) + 256 * (if 4 * j + 1 < i then l.getD (4 * j + 1) 0 else 0) +
    65536 * (if 4 * j + 2 < i then l.getD (4 * j + 2) 0 else 0) + 16777216 * (if 4 * j + 3 < i then l.getD (4 * j + 3) 0 else 0)
def pcs (l : List Int) (n i : Nat) : List Int := (List.range n).map (pc l i)
def packC (l : List Int) : List Int := pcs l ((l.length + 3) / 4) l.length

theorem pcs_len (l : List Int) (n i : Nat) : (pcs l n i).length = n := by simp [pcs]
theorem packC_len (l : List Int) : (packC l).length = (l.length + 3) / 4 := pcs_len _ _ _
theorem pcs_get (l : List Int) (n i j : Nat) (h : j < n) : (pcs l n i)[j]? = some (pc l i j) := by
  simp [pcs, h]
theorem pcs_zero (l : List Int) (n : Nat) : pcs l n 0 = List.replicate n 0 := by
  apply List.ext_getElem?
  intro j
  by_cases h : j < n
  · rw [pcs_get l n 0 j h, List.getElem?_replicate, if_pos h]; simp [pc]
  · rw [List.getElem?_eq_none (by rw [pcs_len]; omega), List.getElem?_replicate, if_neg h]

def Byte (x : Int) : Prop := 0 ≤ x ∧ x ≤ 255
theorem getD_byte {l : List Int} (h : ∀ x ∈ l, Byte x) (k : Nat) : Byte (l.getD k 0) := by
  rw [List.getD_eq_getElem?_getD]
  cases e : l[k]? with
  | none => exact ⟨by simp, by simp⟩
  | some x => exact h x (List.mem_of_getElem? e)
theorem pc_range {l : List Int} (h : ∀ x ∈ l, Byte x) (i j : Nat) : 0 ≤ pc l i j ∧ pc l i j ≤ 4294967295 := by
  have h0 := getD_byte h (4 * j); have h1 := getD_byte h (4 * j + 1); have h2 := getD_byte h (4 * j + 2); have h3 := getD_byte h (4 * j + 3)
  unfold Byte at h0 h1 h2 h3
  unfold pc
  split <;> split <;> split <;> split <;> omega
theorem packC_range {l : List Int} (h : ∀ x ∈ l, Byte x) : ∀ x ∈ packC l, 0 ≤ x ∧ x ≤ 4294967295 := by
  intro x hx
  simp only [packC, pcs, List.mem_map] at hx
  obtain ⟨j, _, rfl⟩ := hx
  exact pc_range h _ _

/-- where the i-th byte goes -/
def pw (r : Nat) : Int := if r = 0 then 1 else if r = 1 then 256 else if r = 2 then 65536 else 16777216
theorem pc_low {l : List Int} (h : ∀ x ∈ l, Byte x) (i : Nat) : 0 ≤ pc l i (i / 4) ∧ pc l i (i / 4) < pw (i % 4) := by
  have h0 := getD_byte h (4 * (i / 4)); have h1 := getD_byte h (4 * (i / 4) + 1); have h2 := getD_byte h (4 * (i / 4) + 2)
  unfold Byte at h0 h1 h2
  generalize hq : i / 4 = q at *
  generalize hr : i % 4 = r at *
  have hi : i = 4 * q + r := by omega
  have hr4 : r < 4 := by omega
  subst hi
  unfold pc pw
  rcases (by omega : r = 0 ∨ r = 1 ∨ r = 2 ∨ r = 3) with rfl | rfl | rfl | rfl
  · rw [if_neg (by omega), if_neg (by omega), if_neg (by omega), if_neg (by omega)]; simp
  · rw [if_pos (by omega), if_neg (by omega), if_neg (by omega), if_neg (by omega)]; exact ⟨by omega, by rw [if_neg (by decide), if_pos rfl]; omega⟩
  · rw [if_pos (by omega), if_pos (by omega), if_neg (by omega), if_neg (by omega)]; exact ⟨by omega, by rw [if_neg (by decide), if_neg (by decide), if_pos rfl]; omega⟩
  · rw [if_pos (by omega), if_pos (by omega), if_pos (by omega), if_neg (by omega)]; exact ⟨by omega, by rw [if_neg (by decide), if_neg (by decide), if_neg (by decide)]; omega⟩
theorem pc_next (l : List Int) (i j : Nat) : pc l (i + 1) j = if j = i / 4 then pc l i j + l.getD i 0 * pw (i % 4) else pc l i j := by
  generalize hq : i / 4 = q at *
  generalize hr : i % 4 = r at *
  have hi : i = 4 * q + r := by omega
  have hr4 : r < 4 := by omega
  subst hi
  unfold pc pw
  by_cases hj : j = q
  · subst hj
    rw [if_pos rfl]
    rcases (by omega : r = 0 ∨ r = 1 ∨ r = 2 ∨ r = 3) with rfl | rfl | rfl | rfl
    · rw [if_pos (by omega), if_neg (by omega), if_neg (by omega), if_neg (by omega), if_neg (by omega), if_neg (by omega), if_neg (by omega), if_neg (by omega)]; simp
    · rw [if_pos (by omega), if_pos (by omega), if_neg (by omega), if_neg (by omega), if_pos (by omega), if_neg (by omega), if_neg (by omega), if_neg (by omega)]; simp; omega
    · rw [if_pos (by omega), if_pos (by omega), if_pos (by omega), if_neg (by omega), if_pos (by omega), if_pos (by omega), if_neg (by omega), if_neg (by omega)]; simp; omega
    · rw [if_pos (by omega), if_pos (by omega), if_pos (by omega), if_pos (by omega), if_pos (by omega), if_pos (by omega), if_pos (by omega), if_neg (by omega)]; simp; omega
  · rw [if_neg hj]
    rcases Nat.lt_or_gt_of_ne hj with h | h
    · rw [if_pos (by omega), if_pos (by omega), if_pos (by omega), if_pos (by omega), if_pos (by omega), if_pos (by omega), if_pos (by omega), if_pos (by omega)]
    · rw [if_neg (by omega), if_neg (by omega), if_neg (by omega), if_neg (by omega), if_neg (by omega), if_neg (by omega), if_neg (by omega), if_neg (by omega)]
theorem pcs_next (l : List Int) (n i : Nat) : (pcs l n i).set (i / 4) (pc l i (i / 4) + l.getD i 0 * pw (i % 4)) = pcs l n (i + 1) := by
  apply List.ext_getElem?
  intro j
  by_cases h : j < n
  · rw [pcs_get l n (i + 1) j h, pc_next]
    by_cases hj : j = i / 4
    · subst hj; rw [if_pos rfl, List.getElem?_set_self (by rw [pcs_len]; exact h)]
    · rw [if_neg hj, List.getElem?_set_ne (fun e => hj e.symm), pcs_get l n i j h]
  · rw [List.getElem?_eq_none (by rw [List.length_set, pcs_len]; omega), List.getElem?_eq_none (by rw [pcs_len]; omega)]

theorem packC_inj {l l' : List Int} (h : ∀ x ∈ l, Byte x) (h' : ∀ x ∈ l', Byte x) (hl : l.length = l'.length) (e : packC l = packC l') : l = l' := by
  apply List.ext_getElem hl
  intro k h1 h2
  have ej := congrArg (fun L => L[k / 4]?) e
  simp only [packC] at ej
  rw [pcs_get _ _ _ _ (by omega), pcs_get _ _ _ _ (by omega), ← hl] at ej
  injection ej with ej
  have ta : l[k] = l.getD k 0 := by rw [List.getD_eq_getElem?_getD, List.getElem?_eq_getElem h1]; rfl
  have tb : l'[k] = l'.getD k 0 := by rw [List.getD_eq_getElem?_getD, List.getElem?_eq_getElem h2]; rfl
  rw [ta, tb]
  have key : ∀ (n q : Nat), pc l n q = pc l' n q → ∀ t, t < 4 → 4 * q + t < n → l.getD (4 * q + t) 0 = l'.getD (4 * q + t) 0 := by
    intro n q e t ht hn
    have ra : ∀ (m : List Int) (hm : ∀ x ∈ m, Byte x) (u : Nat), 0 ≤ (if u < n then m.getD u 0 else 0) ∧ (if u < n then m.getD u 0 else 0) ≤ 255 := by
      intro m hm u
      have := getD_byte hm u
      unfold Byte at this
      split <;> omega
    have a0 := ra l h (4 * q); have a1 := ra l h (4 * q + 1); have a2 := ra l h (4 * q + 2); have a3 := ra l h (4 * q + 3)
    have b0 := ra l' h' (4 * q); have b1 := ra l' h' (4 * q + 1); have b2 := ra l' h' (4 * q + 2); have b3 := ra l' h' (4 * q + 3)
    have hx : (if 4 * q + t < n then l.getD (4 * q + t) 0 else 0) = (if 4 * q + t < n then l'.getD (4 * q + t) 0 else 0) := by
      unfold pc at e
      rcases (by omega : t = 0 ∨ t = 1 ∨ t = 2 ∨ t = 3) with rfl | rfl | rfl | rfl
      · rw [Nat.add_zero] at hn ⊢
        generalize (if 4 * q < n then l.getD (4 * q) 0 else 0) = x0 at *
        generalize (if 4 * q < n then l'.getD (4 * q) 0 else 0) = y0 at *
        omega
      all_goals
        generalize (if 4 * q < n then l.getD (4 * q) 0 else 0) = x0 at *
        generalize (if 4 * q < n then l'.getD (4 * q) 0 else 0) = y0 at *
        generalize (if 4 * q + 1 < n then l.getD (4 * q + 1) 0 else 0) = x1 at *
        generalize (if 4 * q + 1 < n then l'.getD (4 * q + 1) 0 else 0) = y1 at *
        generalize (if 4 * q + 2 < n then l.getD (4 * q + 2) 0 else 0) = x2 at *
        generalize (if 4 * q + 2 < n then l'.getD (4 * q + 2) 0 else 0) = y2 at *
        generalize (if 4 * q + 3 < n then l.getD (4 * q + 3) 0 else 0) = x3 at *
        generalize (if 4 * q + 3 < n then l'.getD (4 * q + 3) 0 else 0) = y3 at *
        omega
    rw [if_pos hn, if_pos hn] at hx
    exact hx
  have := key l.length (k / 4) ej (k % 4) (by omega) (by omega)
  rw [show 4 * (k / 4) + k % 4 = k by omega] at this
  exact this

/-- a text's number -/
def hashStep (h b : Int) : Int := ((Nat.xor h.toNat b.toNat : Nat) : Int) * 16777619 % 4294967296
def hashL (l : List Int) : Int := l.foldl hashStep 2166136261
theorem hashStep_range (h b : Int) : 0 ≤ hashStep h b ∧ hashStep h b ≤ 4294967295 := by unfold hashStep; omega
theorem hash_take (l : List Int) (i : Nat) (h : i < l.length) : hashL (l.take (i + 1)) = hashStep (hashL (l.take i)) (l.getD i 0) := by
  unfold hashL
  rw [List.take_succ_eq_append_getElem h, List.foldl_append]
  simp [List.getD_eq_getElem?_getD, h]
theorem hash_range (l : List Int) : 0 ≤ hashL l ∧ hashL l ≤ 4294967295 := by
  rcases List.eq_nil_or_concat l with rfl | ⟨l', x, rfl⟩
  · decide
  · unfold hashL; rw [List.concat_eq_append, List.foldl_append]; exact hashStep_range _ _
end Go.Proofs.Ytbmgmjfpoepgpaa
