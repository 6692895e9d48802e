/- Layer 5 (fold): contract of Fold. -/
import Derived.Test.YtbepgbkbpkaodaaDoorFoldA
namespace Go.Proofs.YtbepgbkbpkaodaaDoor
open Go.RowKit

def foldL (r : Int) : List (Int × Int × Int × Int) → Int
  | [] => r
  | p :: l => if p.2.2.1 = 0 ∨ r < p.1 then r else if r > p.2.1 then foldL r l else if p.2.2.1 = 1 ∨ (p.2.2.1 = 2 ∧ r % 2 = 0) ∨ (p.2.2.1 = 3 ∧ r % 2 = 1) then r + p.2.2.2 else r
def foldM (r : Int) : Int := foldL r movesP
theorem moves_index (i : Nat) (hi : i < 24) (w : World) : ∃ lo hi ev by', movesP[i]? = some (lo, hi, ev, by') ∧ (0 ≤ lo ∧ hi ≤ 1641 ∧ -2000 ≤ by' ∧ by' ≤ 200) ∧ (Instr.index 111 (.agg (moveC movesP).toArray) (.int .i64 (i : Int))).run Tryd.prog w = .ok (.agg #[.int .i32 lo, .int .i32 hi, .int .i64 ev, .int .i32 by']) w := by
  rcases (by omega : i = 0 ∨ i = 1 ∨ i = 2 ∨ i = 3 ∨ i = 4 ∨ i = 5 ∨ i = 6 ∨ i = 7 ∨ i = 8 ∨ i = 9 ∨ i = 10 ∨ i = 11 ∨ i = 12 ∨ i = 13 ∨ i = 14 ∨ i = 15 ∨ i = 16 ∨ i = 17 ∨ i = 18 ∨ i = 19 ∨ i = 20 ∨ i = 21 ∨ i = 22 ∨ i = 23) with rfl | rfl | rfl | rfl | rfl | rfl | rfl | rfl | rfl | rfl | rfl | rfl | rfl | rfl | rfl | rfl | rfl | rfl | rfl | rfl | rfl | rfl | rfl | rfl
  all_goals exact ⟨_, _, _, _, rfl, by decide, by kernel_rfl⟩
set_option maxRecDepth 100000 in
set_option maxHeartbeats 4000000 in
theorem fold_fold (r : Int) (hr : -2147483648 ≤ r ∧ r ≤ 2147483647) (w : World) (hT : FoldTab w) : Calls Tryd.prog 64 #[.int .i32 r] w fun e w' => e = .returned (.int .i32 (foldM r)) ∧ Keeps (· < w.heap.size) w w' := by
  have HT := hid hT
  clear hT
  obtain ⟨LA, hLA⟩ : ∃ LA, LA = (moveC movesP).toArray := ⟨_, rfl⟩
  refine calls_hide fun R' hR' => ?_
  go_enter Tryd.func64, Tryd.ntmps64
  go_wp2_with fail
  go_step3
  go_wp2_with fail
  go_step3
  go_wp2_with (with_reducible refine wpList_load_mid rfl 111 (.global 2) rfl 2 0 rfl (moveC movesP) _ HT.out.moves Tryd.underlying111 rfl (by kernel_rfl) ?_)
  rw [← hLA]
  have HLA := hid hLA
  clear hLA
  go_wp2_with fail
  go_loopw [3, 8] (fun ov iv wr => ∃ i : Nat, ov = .int .i32 r ∧ iv = .int .i64 (i : Int) ∧ i ≤ 24 ∧ Hid (foldL r (movesP.drop i) = foldM r) ∧ Hid (Keeps (· < w.heap.size) w wr)) (fun _ iv _ => 24 - (intOf iv).toNat)
  case atStart => exact ⟨0, rfl, rfl, by decide, hid rfl, hid (Keeps.refl _ _)⟩
  case round =>
    obtain ⟨i, rfl, rfl, hi, HC, HK⟩ := hrel
    by_cases hlt : i < 24
    · have hltI : (i : Int) < 24 := by omega
      obtain ⟨lo, hi9, ev, bb, hg, ⟨g0, g1, g2, g3⟩, -⟩ := moves_index i hlt w
      have hix : ∀ w, (Instr.index 111 (.agg LA) (.int .i64 (i : Int))).run Tryd.prog w = .ok (.agg #[.int .i32 lo, .int .i32 hi9, .int .i64 ev, .int .i32 bb]) w := by
        intro w
        obtain ⟨lo', hi', ev', by', hg', _, h⟩ := moves_index i hlt w
        rw [hg] at hg'
        injection hg' with hg'
        injection hg' with e1 e2
        injection e2 with e2 e3
        injection e3 with e3 e4
        rw [HLA.out, e1, e2, e3, e4]; exact h
      have hcl := HC.out
      have hd : movesP.drop i = (lo, hi9, ev, bb) :: movesP.drop (i + 1) := by
        obtain ⟨h9, h8⟩ := List.getElem?_eq_some_iff.1 hg
        rw [List.drop_eq_getElem_cons h9, h8]
      rw [hd] at hcl
      unfold foldL at hcl
      dsimp only at hcl
      have hbs := HK.out.size
      have hk2 := HK.out.alloc (fun b hb => Nat.lt_of_lt_of_le hb hbs) (.cells #[.int .i32 lo, .int .i32 hi9, .int .i64 ev, .int .i32 bb] 110)
      clear HC hd hg
      by_cases q0 : ev = 0
      · rw [if_pos (Or.inl q0)] at hcl
        have b0 : (ev == 0) = true := by simp [q0]
        have Q0 := hid q0
        clear q0
        have Hcl := hid hcl
        have Hk2 := hid hk2
        clear hcl hk2
        go_wp2_with fail
        exact hR'.out _ _ ⟨by rw [← Hcl.out]; first | rfl | skip, Hk2.out⟩
      have b0 : (ev == 0) = false := by simpa using q0
      by_cases q1 : r < lo
      · rw [if_pos (Or.inr q1)] at hcl
        have Hcl := hid hcl
        have Hk2 := hid hk2
        clear hcl hk2
        go_wp2_with fail
        exact hR'.out _ _ ⟨by rw [← Hcl.out]; first | rfl | skip, Hk2.out⟩
      rw [if_neg (by rintro (h | h); exact q0 h; exact q1 h)] at hcl
      by_cases q2 : r > hi9
      · rw [if_pos q2] at hcl
        have Hcl := hid hcl
        have Hk2 := hid hk2
        clear hcl hk2
        go_wp2_with fail
        go_roundw
        case rel => exact ⟨i + 1, rfl, by go_num, by omega, Hcl, Hk2⟩
        case measure => first | (simp [intOf]; done) | (simp [intOf]; omega)
      rw [if_neg q2] at hcl
      by_cases q3 : ev = 1
      · rw [if_pos (Or.inl q3)] at hcl
        have b1 : (ev == 1) = true := by simp [q3]
        have Q3 := hid q3
        clear q3 q0
        have Hcl := hid hcl
        have Hk2 := hid hk2
        clear hcl hk2
        go_wp2_with fail
        exact hR'.out _ _ ⟨by rw [← Hcl.out]; first | rfl | skip, Hk2.out⟩
      have b1 : (ev == 1) = false := by simpa using q3
      have hr2 : r.tmod 2 = r % 2 := Int.tmod_eq_emod_of_nonneg (by omega)
      have hbd : -2147483648 ≤ r + bb ∧ r + bb ≤ 2147483647 := by omega
      by_cases q4 : ev = 2
      · have b2 : (ev == 2) = true := by simp [q4]
        have b3 : (ev == 3) = false := by simp [q4]
        by_cases q5 : r % 2 = 0
        · rw [if_pos (Or.inr (Or.inl ⟨q4, q5⟩))] at hcl
          have b5 : (r % 2 == 0) = true := by simp [q5]
          clear q0 q3 q4 q5 hr2
          have Hcl := hid hcl
          have Hk2 := hid hk2
          clear hcl hk2
          go_wp2_with fail
          exact hR'.out _ _ ⟨by rw [← Hcl.out]; first | rfl | skip, Hk2.out⟩
        · rw [if_neg (by omega)] at hcl
          have b5 : (r % 2 == 0) = false := by simpa using q5
          clear q0 q3 q4 q5 hr2
          have Hcl := hid hcl
          have Hk2 := hid hk2
          clear hcl hk2
          go_wp2_with fail
          exact hR'.out _ _ ⟨by rw [← Hcl.out]; first | rfl | skip, Hk2.out⟩
      have b2 : (ev == 2) = false := by simpa using q4
      by_cases q6 : ev = 3
      · have b3 : (ev == 3) = true := by simp [q6]
        by_cases q5 : r % 2 = 1
        · rw [if_pos (Or.inr (Or.inr ⟨q6, q5⟩))] at hcl
          have b5 : (r % 2 == 1) = true := by simp [q5]
          clear q0 q3 q4 q5 q6 hr2
          have Hcl := hid hcl
          have Hk2 := hid hk2
          clear hcl hk2
          go_wp2_with fail
          exact hR'.out _ _ ⟨by rw [← Hcl.out]; first | rfl | skip, Hk2.out⟩
        · rw [if_neg (by omega)] at hcl
          have b5 : (r % 2 == 1) = false := by simpa using q5
          clear q0 q3 q4 q5 q6 hr2
          have Hcl := hid hcl
          have Hk2 := hid hk2
          clear hcl hk2
          go_wp2_with fail
          exact hR'.out _ _ ⟨by rw [← Hcl.out]; first | rfl | skip, Hk2.out⟩
      have b3 : (ev == 3) = false := by simpa using q6
      rw [if_neg (by omega)] at hcl
      clear q0 q3 q4 q6 hr2
      have Hcl := hid hcl
      have Hk2 := hid hk2
      clear hcl hk2
      go_wp2_with fail
      exact hR'.out _ _ ⟨by rw [← Hcl.out]; first | rfl | skip, Hk2.out⟩
    · obtain rfl : i = 24 := by omega
      have hcl := HC.out
      have hcl : r = foldM r := hcl
      have HCL := hid hcl
      clear hcl
      go_wp2_with fail
      exact hR'.out _ _ ⟨by rw [← HCL.out]; first | rfl | skip, HK.out⟩
end Go.Proofs.YtbepgbkbpkaodaaDoor
