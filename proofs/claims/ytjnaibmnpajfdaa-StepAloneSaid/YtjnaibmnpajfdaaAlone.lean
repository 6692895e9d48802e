/- StepAlone: what the statement reckons by itself is the program at once. -/
import Derived.Test.YtjnaibmnpajfdaaPlainC
import Derived.Test.YtjnaibmnpajfdaaInsA
namespace Go.Proofs.Ytjnaibmnpajfdaa
open Go.RowKit

/-- the statement's own reckoning: the cells, how many accesses; none: an address without a cell -/
def aloneM : List InsM → List Int → Int → Nat → Option (List Int × Nat)
  | [], cs, _, n => some (cs, n)
  | x :: xs, cs, last, n =>
    if x.op = 4 ∧ last % 2 = 1 then some (cs, n)
    else if x.op < 0 ∨ 3 < x.op then aloneM xs cs last n
    else if addrM x last < 0 ∨ (cs.length : Int) ≤ addrM x last then none
    else if x.op = 0 ∨ x.op = 2 then aloneM xs cs (cs.getD (addrM x last).toNat 0) (n + 1)
    else if x.op = 1 then aloneM xs (cs.set (addrM x last).toNat x.v) last (n + 1)
    else aloneM xs (cs.set (addrM x last).toNat ((last + x.v) % 4294967296)) last (n + 1)

theorem aloneM_more : ∀ (l : List InsM) (cs : List Int) (last : Int) (n m : Nat), aloneM l cs last (n + m) = (aloneM l cs last n).map fun y => (y.1, y.2 + m)
  | [], cs, last, n, m => rfl
  | x :: xs, cs, last, n, m => by
    unfold aloneM
    split
    · rfl
    · split
      · exact aloneM_more xs cs last n m
      · split
        · rfl
        · split
          · rw [show n + m + 1 = n + 1 + m by omega]; exact aloneM_more xs _ _ (n + 1) m
          · split
            · rw [show n + m + 1 = n + 1 + m by omega]; exact aloneM_more xs _ _ (n + 1) m
            · rw [show n + m + 1 = n + 1 + m by omega]; exact aloneM_more xs _ _ (n + 1) m

theorem alone_ideal : ∀ (l : List InsM) (i : Nat) (cs : List Int) (last : Int), i + l.length ≤ 101 → (progT l i last).ideal cs = (aloneM l cs last 0).map fun y => ((), y.1, y.2)
  | [], i, cs, last, _ => rfl
  | x :: xs, i, cs, last, h => by
    have hi : ¬ 100 < i := by simp at h; omega
    show (if false = true ∨ 100 < i ∨ (x.op = 4 ∧ last % 2 = 1) then Tree.ret () else _ : Tree Unit).ideal cs = _
    unfold aloneM
    by_cases h4 : x.op = 4 ∧ last % 2 = 1
    · rw [if_pos (Or.inr (Or.inr h4)), if_pos h4]; rfl
    · rw [if_neg (by rintro (h | h | h); cases h; exact hi h; exact h4 h), if_neg h4]
      have ih := alone_ideal xs (i + 1)
      by_cases h02 : x.op = 0 ∨ x.op = 2
      · rw [if_pos h02, if_neg (show ¬ (x.op < 0 ∨ 3 < x.op) by omega)]
        unfold Tree.ideal
        by_cases hin : addrM x last < 0 ∨ (cs.length : Int) ≤ addrM x last
        · rw [if_pos hin, if_neg (by omega)]; rfl
        · rw [if_neg hin, if_pos (by omega), if_pos h02, ih _ _ (by simp at h; omega), aloneM_more xs _ _ 0 1]
          cases aloneM xs cs (cs.getD (addrM x last).toNat 0) 0 <;> rfl
      · rw [if_neg h02]
        by_cases h1 : x.op = 1
        · have ha : addrM x last = x.a := by unfold addrM; rw [if_neg (by omega)]
          rw [if_pos h1, if_neg (show ¬ (x.op < 0 ∨ 3 < x.op) by omega), ha]
          unfold Tree.ideal
          by_cases hin : x.a < 0 ∨ (cs.length : Int) ≤ x.a
          · rw [if_pos hin, if_neg (by omega)]; rfl
          · rw [if_neg hin, if_pos (by omega), if_neg h02, if_pos h1, ih _ _ (by simp at h; omega), aloneM_more xs _ _ 0 1]
            cases aloneM xs (cs.set x.a.toNat x.v) last 0 <;> rfl
        · rw [if_neg h1]
          by_cases h3 : x.op = 3
          · have ha : addrM x last = x.a := by unfold addrM; rw [if_neg (by omega)]
            rw [if_pos h3, if_neg (show ¬ (x.op < 0 ∨ 3 < x.op) by omega), ha]
            unfold Tree.ideal
            by_cases hin : x.a < 0 ∨ (cs.length : Int) ≤ x.a
            · rw [if_pos hin, if_neg (by omega)]; rfl
            · rw [if_neg hin, if_pos (by omega), if_neg h02, if_neg h1, ih _ _ (by simp at h; omega), aloneM_more xs _ _ 0 1]
              cases aloneM xs (cs.set x.a.toNat ((last + x.v) % 4294967296)) last 0 <;> rfl
          · rw [if_neg h3, if_pos (show x.op < 0 ∨ 3 < x.op by omega)]
            exact ih _ _ (by simp at h; omega)

theorem alone_len : ∀ (l : List InsM) (cs : List Int) (last : Int) (n : Nat) (cs' : List Int) (m : Nat), aloneM l cs last n = some (cs', m) → m ≤ n + l.length
  | [], cs, last, n, cs', m, h => by injection h with h; injection h with h1 h2; omega
  | x :: xs, cs, last, n, cs', m, h => by
    unfold aloneM at h
    simp only [List.length_cons]
    split at h
    · injection h with h; injection h with h1 h2; omega
    · split at h
      · have := alone_len xs _ _ _ _ _ h; omega
      · split at h
        · cases h
        · split at h
          · have := alone_len xs _ _ _ _ _ h; omega
          · split at h
            · have := alone_len xs _ _ _ _ _ h; omega
            · have := alone_len xs _ _ _ _ _ h; omega
end Go.Proofs.Ytjnaibmnpajfdaa
