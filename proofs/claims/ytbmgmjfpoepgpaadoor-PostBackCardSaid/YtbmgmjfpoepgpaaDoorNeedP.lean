/- Plain: what words need, word by word, and at once. -/
import Derived.Test.YtbmgmjfpoepgpaaDoorNeed
import Derived.Test.YtbmgmjfpoepgpaaDoorPutX
namespace Go.Proofs.YtbmgmjfpoepgpaaDoor
open Go.RowKit

/-- word by word: by how many are left in the slab, and the next class -/
def refL : Nat → Nat → Nat → V6 → V6
  | 0, _, _, out => out
  | n + 1, left, k, out => if left = 0 then refL n (sz k - 2) (min (k + 1) 3) (out.up k (szK k)) else refL n (left - 1) k out
theorem refL_rest : ∀ (m n left k : Nat) (out : V6), m ≤ left → refL (m + n) left k out = refL n (left - m) k out := by
  intro m
  induction m with
  | zero => intro n left k out _; rw [Nat.zero_add, Nat.sub_zero]
  | succ m ih =>
    intro n left k out h
    rw [show m + 1 + n = (m + n) + 1 from by omega, refL, if_neg (by omega), ih _ _ _ _ (by omega), show left - 1 - m = left - (m + 1) from by omega]
theorem needL_ref : ∀ (f n room k : Nat) (out : V6), k ≤ 3 → n + (if room = 0 then 1 else 0) < f → needL f (n : Int) (room : Int) k out = refL n room k out := by
  intro f
  induction f with
  | zero => intro n room k out _ h; omega
  | succ f ih =>
    intro n room k out hk h
    have hs := sz_ge hk
    have hz := szK_eq hk
    rw [needL]
    by_cases hgt : n > room
    · rw [if_pos (by omega), show (n : Int) - (room : Int) = ((n - room : Nat) : Int) from by omega, hz, show (sz k : Int) - 1 = ((sz k - 1 : Nat) : Int) from by omega, ih _ _ _ _ (by omega) (by rw [if_neg (by omega)]; split at h <;> omega)]
      obtain ⟨m, hm⟩ : ∃ m, n - room = m + 1 := ⟨n - room - 1, by omega⟩
      have e1 : refL n room k out = refL (m + 1) 0 k out := by
        have := refL_rest room (n - room) room k out (Nat.le_refl _)
        rw [show room + (n - room) = n from by omega, Nat.sub_self, hm] at this
        exact this
      rw [e1, hm, refL, if_neg (by omega), show refL (m + 1) 0 k out = refL m (sz k - 2) (min (k + 1) 3) (out.up k (szK k)) from by rw [refL, if_pos rfl], hz, show sz k - 1 - 1 = sz k - 2 from by omega]
    · rw [if_neg (by omega)]
      have := refL_rest n 0 room k out (by omega)
      rw [Nat.add_zero] at this
      rw [this]; rfl
theorem needL_neg (f : Nat) (n room : Int) (k : Nat) (out : V6) (h : n ≤ 0) (hr : 0 ≤ room) : needL f n room k out = out := by
  cases f with
  | zero => rfl
  | succ f => rw [needL, if_neg (by omega)]

/-- what is left of a tail's slab, and the class behind it -/
def leftOf : Option (Nat × Nat × Nat) → Nat
  | none => 0
  | some (k, _, a) => sz k - 1 - a
def classOf : Option (Nat × Nat × Nat) → Nat
  | none => 0
  | some (k, _, _) => min (k + 1) 3
theorem takes_iff {x : Option (Nat × Nat × Nat)} : takes x = if leftOf x = 0 then some (classOf x) else none := by
  match x with
  | none => rfl
  | some (k, i, a) =>
    unfold takes leftOf classOf
    by_cases h : a + 1 < sz k
    · simp only; rw [if_pos h, if_neg (by omega)]
    · simp only; rw [if_neg h, if_pos (by omega)]
/-- what was put went as the words need -/
theorem PutHow.refL {P : Pools} {q q' : Nat → Nat} {T T' : Tails} {u u' : V6} {j : Nat} (h : PutHow P q T u j q' T' u') (n : Nat) :
    refL (n + 1) (leftOf (T j)) (classOf (T j)) u = refL n (leftOf (T' j)) (classOf (T' j)) u' := by
  unfold PutHow at h
  rw [takes_iff] at h
  by_cases h0 : leftOf (T j) = 0
  · rw [if_pos h0] at h
    obtain ⟨h1, h2, h3, h4⟩ := h
    rw [h4, h2, Go.Proofs.YtbmgmjfpoepgpaaDoor.refL, if_pos h0]
    rfl
  · rw [if_neg h0] at h
    obtain ⟨rfl, h2, k, i, a, h3, h4⟩ := h
    rw [h3] at h0
    rw [h3, h4, Go.Proofs.YtbmgmjfpoepgpaaDoor.refL, if_neg h0]
    rfl

/-- the sum of two counts -/
def V6.add (u v : V6) : V6 := ⟨u.a0 + v.a0, u.a1 + v.a1, u.a2 + v.a2, u.a3 + v.a3, u.a4 + v.a4, u.a5 + v.a5⟩
theorem V6.add_up (u v : V6) (k : Nat) (z : Int) : u.add (v.up k z) = (u.add v).up k z := by
  unfold V6.add V6.up
  split <;> simp <;> omega
theorem refL_add : ∀ (n left k : Nat) (u v : V6), refL n left k (u.add v) = u.add (refL n left k v) := by
  intro n
  induction n with
  | zero => intro _ _ _ _; rfl
  | succ n ih =>
    intro left k u v
    rw [refL, refL]
    split
    · rw [← V6.add_up, ih]
    · rw [ih]
theorem V6.add_zero (u : V6) : u.add zerosN = u := by unfold V6.add zerosN; simp
theorem up_ge (u : V6) (c : Nat) (z : Int) (hz : 0 ≤ z) (k : Nat) : u.uK k ≤ (u.up c z).uK k := by
  unfold V6.up V6.uK
  split <;> split <;> simp <;> omega
theorem refL_ge : ∀ (n left k : Nat) (u : V6) (i : Nat), u.uK i ≤ (refL n left k u).uK i := by
  intro n
  induction n with
  | zero => intro _ _ _ _; exact Int.le_refl _
  | succ n ih =>
    intro left k u i
    rw [refL]
    split
    · exact Int.le_trans (up_ge u k _ (by have := szK_bd k; omega) i) (ih _ _ _ _)
    · exact ih _ _ _ _
end Go.Proofs.YtbmgmjfpoepgpaaDoor
