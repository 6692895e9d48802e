/- Layer 17 (query): Parse. -/
import Derived.Test.YtbepgbkbpkaodaaDoorQryR
namespace Go.Proofs.YtbepgbkbpkaodaaDoor
open Go.RowKit

def nextWS (l : List Int) : ByteArray := textS ((skipS l).takeWhile isW)
def restW (l : List Int) : List Int := (skipS l).dropWhile isW
theorem nextW_conv (rs : List Int) (p : Nat) : nextW rs p = nextWS (rs.drop p) := by unfold nextW nextWS; rw [drop_skip]
theorem drop_restW (rs : List Int) (p : Nat) : rs.drop (wordE rs (skipB rs p)) = restW (rs.drop p) := by unfold restW; rw [drop_word, drop_skip]
theorem restW_le (l : List Int) : (restW l).length ≤ l.length := Nat.le_trans (dw_le _ _) (skipS_le l)
/-- what stands behind the tree: a limit, an order -/
def tailS : Nat → Int → Int → List Int → Except Int (Int × Int)
  | 0, _, _, _ => .error 0
  | k + 1, li, o, l =>
    if signS 35 l = true then (if 0 ≤ li then .error 8 else match limitP (nextWS (afterS 35 l)) with | none => .error 8 | some n => tailS k n o (restW (afterS 35 l)))
    else if signS 64 (afterS 35 l) = true then (if 0 ≤ o then .error 8 else match orderP (nextWS (afterS 64 (afterS 35 l))) with | none => .error 8 | some n => tailS k li n (restW (afterS 64 (afterS 35 l))))
    else if (afterS 64 (afterS 35 l)) ≠ [] then .error 8 else .ok (li, o)
theorem tailS_more : ∀ (k : Nat) (li o : Int) (l : List Int), l.length < k → tailS k li o l = tailS (l.length + 1) li o l
  | 0, _, _, _, h => absurd h (Nat.not_lt_zero _)
  | k + 1, li, o, l, h => by
    unfold tailS
    by_cases h1 : signS 35 l = true
    · rw [if_pos h1, if_pos h1]
      have a1 := afterS_lt h1
      have a2 := restW_le (afterS 35 l)
      by_cases h2 : 0 ≤ li
      · rw [if_pos h2, if_pos h2]
      rw [if_neg h2, if_neg h2]
      cases limitP (nextWS (afterS 35 l)) with
      | none => rfl
      | some n =>
        dsimp only
        rw [tailS_more k n o _ (by omega)]
        by_cases h4 : l.length = (restW (afterS 35 l)).length + 1
        · rw [h4]
        · rw [tailS_more l.length n o _ (by omega)]
    · rw [if_neg h1, if_neg h1]
      have a0 := afterS_le 35 l
      by_cases h3 : signS 64 (afterS 35 l) = true
      · rw [if_pos h3, if_pos h3]
        have a1 := afterS_lt h3
        have a2 := restW_le (afterS 64 (afterS 35 l))
        by_cases h2 : 0 ≤ o
        · rw [if_pos h2, if_pos h2]
        rw [if_neg h2, if_neg h2]
        cases orderP (nextWS (afterS 64 (afterS 35 l))) with
        | none => rfl
        | some n =>
          dsimp only
          rw [tailS_more k li n _ (by omega)]
          by_cases h4 : l.length = (restW (afterS 64 (afterS 35 l))).length + 1
          · rw [h4]
          · rw [tailS_more l.length li n _ (by omega)]
      · rw [if_neg h3, if_neg h3]
  termination_by k => k
def finS (p : Int × Int) : Int × Int := (if p.1 < 0 then 10 else p.1, max p.2 0)
def tailOf (l : List Int) : Except Int (Int × Int) := tailS (l.length + 1) (-1) (-1) l
def parseR (l : List Int) : Except Int (Nd × Int × Int) :=
  match rootS l with
  | .error e => .error e
  | .ok (n, l') => match tailOf l' with
    | .error e => .error e
    | .ok p => .ok (n, finS p)
def parseS (s : ByteArray) : Except Int (Nd × Int × Int) := if 256 < s.size then .error 4 else parseR (runesS s)
end Go.Proofs.YtbepgbkbpkaodaaDoor
