/- Layer 17 (query): the closure that recovers. -/
import Derived.Test.YtbepgbkbpkaodaaDoorQryQ
import Derived.Defers
import Derived.Recover
namespace Go.Proofs.YtbepgbkbpkaodaaDoor
open Go.RowKit

set_option maxRecDepth 100000 in
set_option maxHeartbeats 2000000 in
theorem query_catch (q e : Nat) (n : Int) (xs : List Value) (x : Value) (w : World) (hq : Blk w q xs) (hl : xs.length = 6) (he : Blk w e [x]) (hne : q ≠ e) :
    CallsD Tryd.prog 22 #[.pointer (some ⟨q, 0, none⟩), .pointer (some ⟨e, 0, none⟩)] (.panicking [{ v := .iface 29 (.int .i64 n), recovered := false }]) w fun r u' w' =>
      r = .returned (.tuple #[]) ∧ u' = .panicking [{ v := .iface 29 (.int .i64 n), recovered := true }] ∧ Blk w' q [.int .i64 0, .int .u8 0, .slice none 0 0, .slice none 0 0, .int .i64 0, .int .i64 0] ∧ Blk w' e [.int .i64 n] ∧ Keeps (fun x => x ≠ q ∧ x ≠ e) w w' := by
  obtain ⟨x0, x1, x2, x3, x4, x5, rfl⟩ : ∃ x0 x1 x2 x3 x4 x5, xs = [x0, x1, x2, x3, x4, x5] := by
    match xs, hl with
    | [x0, x1, x2, x3, x4, x5], _ => exact ⟨_, _, _, _, _, _, rfl⟩
  have fq := hq.free
  have fe := he.free
  have c0 := (hq).cell 0
  have c1 := (hq).cell 1
  have c2 := (hq).cell 2
  have c3 := (hq).cell 3
  have c4 := (hq).cell 4
  have c5 := (hq).cell 5
  simp only [List.getElem?_cons_zero, List.getElem?_cons_succ] at c0 c1 c2 c3 c4 c5
  have d0 := (he).cell 0
  simp only [List.getElem?_cons_zero] at d0
  have hta : ∀ w, (Instr.typeAssert (.iface 29 (.int .i64 n)) 20 29 true).run Tryd.prog w = .ok (.tuple #[.int .i64 n, .bool true]) w := fun w => by kernel_rfl
  refine callsD_of_wpS Tryd.func22 rfl fun c₀ cs hu => ?_
  have ht : #[Value.pointer (some ⟨q, 0, none⟩), Value.pointer (some ⟨e, 0, none⟩)] ++ Array.replicate (Tryd.f22.ntmps - #[Value.pointer (some ⟨q, 0, none⟩), Value.pointer (some ⟨e, 0, none⟩)].size) undef = #[Value.pointer (some ⟨q, 0, none⟩), Value.pointer (some ⟨e, 0, none⟩), undef, undef, undef, undef, undef, undef, undef, undef, undef, undef, undef, undef, undef, undef, undef] := rfl
  rw [ht]
  apply wpS_seq
  apply wpS_region
  simp [wpOpsS, go_sem, recoverD, hu, Exit.thenS]
  refine wpS_of_wp ?_
  go_wp2_with fail
  refine ⟨rfl, _, rfl, .tuple #[], results_none rfl _ _ _, rfl, rfl, ?_, ?_, ?_⟩
  · have := ((((((hq.set 0 (.int .i64 0)).set 1 (.int .u8 0)).set 2 (.slice none 0 0)).set 3 (.slice none 0 0)).set 4 (.int .i64 0)).set 5 (.int .i64 0)).set_ne (a := ⟨e, 0, none⟩) (.int .i64 n) hne
    exact this
  · have := ((((((he.set_ne (a := ⟨q, 0, none⟩) (.int .i64 0) hne.symm).set_ne (a := ⟨q, 1, none⟩) (.int .u8 0) hne.symm).set_ne (a := ⟨q, 2, none⟩) (.slice none 0 0) hne.symm).set_ne (a := ⟨q, 3, none⟩) (.slice none 0 0) hne.symm).set_ne (a := ⟨q, 4, none⟩) (.int .i64 0) hne.symm).set_ne (a := ⟨q, 5, none⟩) (.int .i64 0) hne.symm).set 0 (.int .i64 n)
    exact this
  · repeat (first | with_reducible exact Keeps.refl _ _ | with_reducible refine Keeps.setCell ?_ ?_ _)
    all_goals simp

set_option maxRecDepth 100000 in
set_option maxHeartbeats 2000000 in
theorem query_idle (q e : Nat) (w : World) : CallsD Tryd.prog 22 #[.pointer (some ⟨q, 0, none⟩), .pointer (some ⟨e, 0, none⟩)] .returning w fun r u' w' => r = .returned (.tuple #[]) ∧ u' = .returning ∧ w' = w := by
  refine callsD_of_wpS Tryd.func22 rfl fun c₀ cs hu => ?_
  have ht : #[Value.pointer (some ⟨q, 0, none⟩), Value.pointer (some ⟨e, 0, none⟩)] ++ Array.replicate (Tryd.f22.ntmps - #[Value.pointer (some ⟨q, 0, none⟩), Value.pointer (some ⟨e, 0, none⟩)].size) undef = #[Value.pointer (some ⟨q, 0, none⟩), Value.pointer (some ⟨e, 0, none⟩), undef, undef, undef, undef, undef, undef, undef, undef, undef, undef, undef, undef, undef, undef, undef] := rfl
  rw [ht]
  apply wpS_seq
  apply wpS_region
  simp [wpOpsS, go_sem, recoverD, hu, Exit.thenS]
  refine wpS_of_wp ?_
  go_wp2_with fail
  refine ⟨rfl, _, ?_, .tuple #[], results_none rfl _ _ _, rfl, rfl, rfl⟩
  cases c₀
  simp_all
end Go.Proofs.YtbepgbkbpkaodaaDoor

/- Layer 17 (query): Parse. -/
namespace Go.Proofs.YtbepgbkbpkaodaaDoor
open Go.RowKit

def nextWS (l : List Int) : ByteArray := textS ((skipS l).takeWhile isW)
def restW (l : List Int) : List Int := (skipS l).dropWhile isW
theorem nextW_conv (rs : List Int) (p : Nat) : nextW rs p = nextWS (rs.drop p) := by unfold nextW nextWS; rw [drop_skip]
theorem drop_restW (rs : List Int) (p : Nat) : rs.drop (wordE rs (skipB rs p)) = restW (rs.drop p) := by unfold restW; rw [drop_word, drop_skip]
theorem restW_le (l : List Int) : (restW l).length ≤ l.length := Nat.le_trans (dw_le _ _) (skipS_le l)
/-- what stands behind the tree: a limit, an order -/
def tailS : Nat → Int → Int → List Int → Except Int (Int × Int)
  | 0, _, _, _ => .error 0
  | k + 1, li, o, l =>
    if signS 35 l = true then (if 0 ≤ li then .error 8 else match limitP (nextWS (afterS 35 l)) with | none => .error 8 | some n => tailS k n o (restW (afterS 35 l)))
    else if signS 64 (afterS 35 l) = true then (if 0 ≤ o then .error 8 else match orderP (nextWS (afterS 64 (afterS 35 l))) with | none => .error 8 | some n => tailS k li n (restW (afterS 64 (afterS 35 l))))
    else if (afterS 64 (afterS 35 l)) ≠ [] then .error 8 else .ok (li, o)
theorem tailS_more : ∀ (k : Nat) (li o : Int) (l : List Int), l.length < k → tailS k li o l = tailS (l.length + 1) li o l
  | 0, _, _, _, h => absurd h (Nat.not_lt_zero _)
  | k + 1, li, o, l, h => by
    unfold tailS
    by_cases h1 : signS 35 l = true
    · rw [if_pos h1, if_pos h1]
      have a1 := afterS_lt h1
      have a2 := restW_le (afterS 35 l)
      by_cases h2 : 0 ≤ li
      · rw [if_pos h2, if_pos h2]
      rw [if_neg h2, if_neg h2]
      cases limitP (nextWS (afterS 35 l)) with
      | none => rfl
      | some n =>
        dsimp only
        rw [tailS_more k n o _ (by omega)]
        by_cases h4 : l.length = (restW (afterS 35 l)).length + 1
        · rw [h4]
        · rw [tailS_more l.length n o _ (by omega)]
    · rw [if_neg h1, if_neg h1]
      have a0 := afterS_le 35 l
      by_cases h3 : signS 64 (afterS 35 l) = true
      · rw [if_pos h3, if_pos h3]
        have a1 := afterS_lt h3
        have a2 := restW_le (afterS 64 (afterS 35 l))
        by_cases h2 : 0 ≤ o
        · rw [if_pos h2, if_pos h2]
        rw [if_neg h2, if_neg h2]
        cases orderP (nextWS (afterS 64 (afterS 35 l))) with
        | none => rfl
        | some n =>
          dsimp only
          rw [tailS_more k li n _ (by omega)]
          by_cases h4 : l.length = (restW (afterS 64 (afterS 35 l))).length + 1
          · rw [h4]
          · rw [tailS_more l.length li n _ (by omega)]
      · rw [if_neg h3, if_neg h3]
  termination_by k => k
def finS (p : Int × Int) : Int × Int := (if p.1 < 0 then 10 else p.1, max p.2 0)
def tailOf (l : List Int) : Except Int (Int × Int) := tailS (l.length + 1) (-1) (-1) l
def parseR (l : List Int) : Except Int (Nd × Int × Int) :=
  match rootS l with
  | .error e => .error e
  | .ok (n, l') => match tailOf l' with
    | .error e => .error e
    | .ok p => .ok (n, finS p)
def parseS (s : ByteArray) : Except Int (Nd × Int × Int) := if 256 < s.size then .error 4 else parseR (runesS s)
end Go.Proofs.YtbepgbkbpkaodaaDoor
