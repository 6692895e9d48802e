/- Layer 5 (fold): contract of Class. -/
import Derived.Test.YtbepgbkbpkaodaaDoorJOwn
import Derived.Test.YtbepgbkbpkaodaaDoorChecked
import Derived.Deep.MidRow
import Derived.WalkKit
import Derived.Outline
import Derived.Deep.CutBlock
namespace Go.Proofs.YtbepgbkbpkaodaaDoor
open Go.RowKit

def lettersP : List (Int × Int) := [(0x41, 0x5A), (0x61, 0x7A), (0xC0, 0xD6), (0xD8, 0xF6), (0xF8, 0x24F), (0x386, 0x386), (0x388, 0x38A), (0x38C, 0x38C), (0x38E, 0x3A1), (0x3A3, 0x3CE), (0x400, 0x481), (0x48A, 0x52F), (0x5D0, 0x5EA)]
def highP : List (Int × Int) := [(0x4E00, 0x9FFF), (0xAC00, 0xD7A3)]
def spanC (l : List (Int × Int)) : List Value := l.flatMap fun p => [.int .i32 p.1, .int .i32 p.2]
def classL (r : Int) : List (Int × Int) → Int
  | [] => 0
  | p :: l => if r < p.1 then 0 else if r ≤ p.2 then 1 else classL r l
def classM (r : Int) : Int :=
  if (48 ≤ r ∧ r ≤ 57) ∨ (1632 ≤ r ∧ r ≤ 1641) then 2 else if (19968 ≤ r ∧ r ≤ 40959) ∨ (44032 ≤ r ∧ r ≤ 55203) then 1 else classL r lettersP

/-- lo, hi, every, by -/
def movesP : List (Int × Int × Int × Int) := [(0x41, 0x5A, 1, 32), (0xC0, 0xD6, 1, 32), (0xD8, 0xDE, 1, 32), (0x100, 0x137, 2, 1), (0x139, 0x148, 3, 1), (0x14A, 0x177, 2, 1),
  (0x178, 0x178, 1, -121), (0x179, 0x17E, 3, 1), (0x17F, 0x17F, 1, -268), (0x386, 0x386, 1, 0x26), (0x388, 0x38A, 1, 0x25), (0x38C, 0x38C, 1, 0x40),
  (0x38E, 0x38F, 1, 0x3F), (0x391, 0x3A1, 1, 32), (0x3A3, 0x3AB, 1, 32), (0x3C2, 0x3C2, 1, 1), (0x400, 0x40F, 1, 80), (0x410, 0x42F, 1, 32),
  (0x460, 0x481, 2, 1), (0x48A, 0x4BF, 2, 1), (0x4D0, 0x52F, 2, 1), (0x660, 0x669, 1, -0x630), (0, 0, 0, 0), (0, 0, 0, 0)]
def moveC (l : List (Int × Int × Int × Int)) : List Value := l.flatMap fun p => [.int .i32 p.1, .int .i32 p.2.1, .int .i64 p.2.2.1, .int .i32 p.2.2.2]
/-- the tables lie where the variables lie -/
structure FoldTab (w : World) : Prop where
  high : w.rangeAt 0 0 (spanC highP)
  letters : w.rangeAt 1 0 (spanC lettersP)
  moves : w.rangeAt 2 0 (moveC movesP)
  lt : 0 < w.heap.size ∧ 1 < w.heap.size ∧ 2 < w.heap.size
theorem FoldTab.keep {w w' : World} (h : FoldTab w) (k : Keeps (· < w.heap.size) w w') : FoldTab w' := by
  have go : ∀ b cs, b < w.heap.size → w.rangeAt b 0 cs → w'.rangeAt b 0 cs := fun b cs hb hr j v hv => (World.cell?_of_block (a := ⟨b, 0 + j, none⟩) (k.block b hb)).trans (hr j v hv)
  have := k.size
  exact ⟨go _ _ h.lt.1 h.high, go _ _ h.lt.2.1 h.letters, go _ _ h.lt.2.2 h.moves, by have := h.lt; omega⟩
theorem letters_index (i : Nat) (hi : i < 13) (w : World) : ∃ lo hi, lettersP[i]? = some (lo, hi) ∧ (Instr.index 93 (.agg (spanC lettersP).toArray) (.int .i64 (i : Int))).run Tryd.prog w = .ok (.agg #[.int .i32 lo, .int .i32 hi]) w := by
  rcases (by omega : i = 0 ∨ i = 1 ∨ i = 2 ∨ i = 3 ∨ i = 4 ∨ i = 5 ∨ i = 6 ∨ i = 7 ∨ i = 8 ∨ i = 9 ∨ i = 10 ∨ i = 11 ∨ i = 12) with rfl | rfl | rfl | rfl | rfl | rfl | rfl | rfl | rfl | rfl | rfl | rfl | rfl
  all_goals exact ⟨_, _, rfl, by kernel_rfl⟩
set_option maxRecDepth 100000 in
set_option maxHeartbeats 2000000 in
theorem fold_class (r : Int) (hr : -2147483648 ≤ r ∧ r ≤ 2147483647) (w : World) (hT : FoldTab w) : Calls Tryd.prog 54 #[.int .i32 r] w fun e w' => e = .returned (.int .i64 (classM r)) ∧ Keeps (· < w.heap.size) w w' := by
  have HT := hid hT
  have h0 := hT.high 0 _ rfl
  have h1 := hT.high 1 _ rfl
  have h2 := hT.high 2 _ rfl
  have h3 := hT.high 3 _ rfl
  simp only [Nat.zero_add] at h0 h1 h2 h3
  clear hT
  refine calls_hide fun R' hR' => ?_
  go_enter Tryd.func54, Tryd.ntmps54
  by_cases a1 : 48 ≤ r ∧ r ≤ 57
  · obtain ⟨b1, b2⟩ := a1
    have hm : classM r = 2 := by unfold classM; rw [if_pos (Or.inl ⟨b1, b2⟩)]
    go_wp2_with fail
    go_step3
    go_wp2_with fail
    exact hR'.out _ _ ⟨by rw [hm]; rfl, Keeps.refl _ _⟩
  by_cases a2 : 1632 ≤ r ∧ r ≤ 1641
  · obtain ⟨b1, b2⟩ := a2
    have hm : classM r = 2 := by unfold classM; rw [if_pos (Or.inr ⟨b1, b2⟩)]
    go_wp2_with fail
    go_step3
    go_wp2_with fail
    exact hR'.out _ _ ⟨by rw [hm]; rfl, Keeps.refl _ _⟩
  by_cases a3 : 19968 ≤ r ∧ r ≤ 40959
  · obtain ⟨b1, b2⟩ := a3
    have hm : classM r = 1 := by unfold classM; rw [if_neg (by omega), if_pos (Or.inl ⟨b1, b2⟩)]
    go_wp2_with fail
    go_step3
    go_wp2_with fail
    exact hR'.out _ _ ⟨by rw [hm]; rfl, Keeps.refl _ _⟩
  by_cases a4 : 44032 ≤ r ∧ r ≤ 55203
  · obtain ⟨b1, b2⟩ := a4
    have hm : classM r = 1 := by unfold classM; rw [if_neg (by omega), if_pos (Or.inr ⟨b1, b2⟩)]
    go_wp2_with fail
    go_step3
    go_wp2_with fail
    exact hR'.out _ _ ⟨by rw [hm]; rfl, Keeps.refl _ _⟩
  have hm : classM r = classL r lettersP := by unfold classM; rw [if_neg (by omega), if_neg (by omega)]
  have n1 : ¬ (48 ≤ r ∧ r ≤ 57) := a1
  have HM := hid hm
  clear hm
  obtain ⟨LA, hLA⟩ : ∃ LA, LA = (spanC lettersP).toArray := ⟨_, rfl⟩
  rcases (by omega : r < 48 ∨ (57 < r ∧ r < 1632) ∨ (1641 < r ∧ r < 19968) ∨ (40959 < r ∧ r < 44032) ∨ 55203 < r) with c1 | ⟨c1, c2⟩ | ⟨c1, c2⟩ | ⟨c1, c2⟩ | c1
  all_goals
    clear a1 a2 a3 a4 n1
    go_wp2_with fail
    go_step3
    go_wp2_with fail
    go_step3
    go_wp2_with (with_reducible refine wpList_load_mid rfl 93 (.global 1) rfl 1 0 rfl (spanC lettersP) _ HT.out.letters Tryd.underlying93 rfl (by kernel_rfl) ?_)
    rw [← hLA]
    have HLA := hid hLA
    clear hLA
    go_wp2_with fail
    go_loopw [3, 45] (fun cv iv wr => ∃ i : Nat, cv = .int .i64 0 ∧ iv = .int .i64 (i : Int) ∧ i ≤ 13 ∧ Hid (classL r (lettersP.drop i) = classM r) ∧ Hid (Keeps (· < w.heap.size) w wr)) (fun _ iv _ => 13 - (intOf iv).toNat)
    case atStart => exact ⟨0, rfl, rfl, by decide, hid HM.out.symm, hid (Keeps.refl _ _)⟩
    case round =>
      obtain ⟨i, rfl, rfl, hi, HC, HK⟩ := hrel
      by_cases hlt : i < 13
      · have hltI : (i : Int) < 13 := by omega
        obtain ⟨lo, hi9, hg, -⟩ := letters_index i hlt w
        have hix : ∀ w, (Instr.index 93 (.agg LA) (.int .i64 (i : Int))).run Tryd.prog w = .ok (.agg #[.int .i32 lo, .int .i32 hi9]) w := by
          intro w
          obtain ⟨lo', hi', hg', h⟩ := letters_index i hlt w
          rw [hg] at hg'
          injection hg' with hg'
          injection hg' with e1 e2
          rw [HLA.out, e1, e2]; exact h
        have hcl := HC.out
        have hd : lettersP.drop i = (lo, hi9) :: lettersP.drop (i + 1) := by
          obtain ⟨h9, h8⟩ := List.getElem?_eq_some_iff.1 hg
          rw [List.drop_eq_getElem_cons h9, h8]
        rw [hd] at hcl
        unfold classL at hcl
        dsimp only at hcl
        have hbs := HK.out.size
        have hk2 := HK.out.alloc (fun b hb => Nat.lt_of_lt_of_le hb hbs) (.cells #[.int .i32 lo, .int .i32 hi9] 91)
        clear HC hd hg
        by_cases q1 : r < lo
        · rw [if_pos q1] at hcl
          have Hcl := hid hcl
          have Hk2 := hid hk2
          clear hcl hk2
          go_wp2_with fail
          exact hR'.out _ _ ⟨by rw [← Hcl.out]; first | rfl | skip, Hk2.out⟩
        · by_cases q2 : r ≤ hi9
          · rw [if_neg q1, if_pos q2] at hcl
            have Hcl := hid hcl
            have Hk2 := hid hk2
            clear hcl hk2
            go_wp2_with fail
            exact hR'.out _ _ ⟨by rw [← Hcl.out]; first | rfl | skip, Hk2.out⟩
          · rw [if_neg q1, if_neg q2] at hcl
            have Hcl := hid hcl
            have Hk2 := hid hk2
            clear hcl hk2
            go_wp2_with fail
            go_roundw
            case rel => exact ⟨i + 1, rfl, by go_num, by omega, Hcl, Hk2⟩
            case measure => first | (simp [intOf]; done) | (simp [intOf]; omega)
      · obtain rfl : i = 13 := by omega
        have hcl := HC.out
        have hcl : 0 = classM r := hcl
        have Hcl := hid hcl
        clear hcl
        go_wp2_with fail
        exact hR'.out _ _ ⟨by rw [← Hcl.out]; first | rfl | skip, HK.out⟩
end Go.Proofs.YtbepgbkbpkaodaaDoor

/- Layer 5 (fold): contract of Fold. -/
namespace Go.Proofs.YtbepgbkbpkaodaaDoor
open Go.RowKit

def foldL (r : Int) : List (Int × Int × Int × Int) → Int
  | [] => r
  | p :: l => if p.2.2.1 = 0 ∨ r < p.1 then r else if r > p.2.1 then foldL r l else if p.2.2.1 = 1 ∨ (p.2.2.1 = 2 ∧ r % 2 = 0) ∨ (p.2.2.1 = 3 ∧ r % 2 = 1) then r + p.2.2.2 else r
def foldM (r : Int) : Int := foldL r movesP
theorem moves_index (i : Nat) (hi : i < 24) (w : World) : ∃ lo hi ev by', movesP[i]? = some (lo, hi, ev, by') ∧ (0 ≤ lo ∧ hi ≤ 1641 ∧ -2000 ≤ by' ∧ by' ≤ 200) ∧ (Instr.index 111 (.agg (moveC movesP).toArray) (.int .i64 (i : Int))).run Tryd.prog w = .ok (.agg #[.int .i32 lo, .int .i32 hi, .int .i64 ev, .int .i32 by']) w := by
  rcases (by omega : i = 0 ∨ i = 1 ∨ i = 2 ∨ i = 3 ∨ i = 4 ∨ i = 5 ∨ i = 6 ∨ i = 7 ∨ i = 8 ∨ i = 9 ∨ i = 10 ∨ i = 11 ∨ i = 12 ∨ i = 13 ∨ i = 14 ∨ i = 15 ∨ i = 16 ∨ i = 17 ∨ i = 18 ∨ i = 19 ∨ i = 20 ∨ i = 21 ∨ i = 22 ∨ i = 23) with rfl | rfl | rfl | rfl | rfl | rfl | rfl | rfl | rfl | rfl | rfl | rfl | rfl | rfl | rfl | rfl | rfl | rfl | rfl | rfl | rfl | rfl | rfl | rfl
  all_goals exact ⟨_, _, _, _, rfl, by decide, by kernel_rfl⟩
set_option maxRecDepth 100000 in
set_option maxHeartbeats 4000000 in
theorem fold_fold (r : Int) (hr : -2147483648 ≤ r ∧ r ≤ 2147483647) (w : World) (hT : FoldTab w) : Calls Tryd.prog 64 #[.int .i32 r] w fun e w' => e = .returned (.int .i32 (foldM r)) ∧ Keeps (· < w.heap.size) w w' := by
  have HT := hid hT
  clear hT
  obtain ⟨LA, hLA⟩ : ∃ LA, LA = (moveC movesP).toArray := ⟨_, rfl⟩
  refine calls_hide fun R' hR' => ?_
  go_enter Tryd.func64, Tryd.ntmps64
  go_wp2_with fail
  go_step3
  go_wp2_with fail
  go_step3
  go_wp2_with (with_reducible refine wpList_load_mid rfl 111 (.global 2) rfl 2 0 rfl (moveC movesP) _ HT.out.moves Tryd.underlying111 rfl (by kernel_rfl) ?_)
  rw [← hLA]
  have HLA := hid hLA
  clear hLA
  go_wp2_with fail
  go_loopw [3, 8] (fun ov iv wr => ∃ i : Nat, ov = .int .i32 r ∧ iv = .int .i64 (i : Int) ∧ i ≤ 24 ∧ Hid (foldL r (movesP.drop i) = foldM r) ∧ Hid (Keeps (· < w.heap.size) w wr)) (fun _ iv _ => 24 - (intOf iv).toNat)
  case atStart => exact ⟨0, rfl, rfl, by decide, hid rfl, hid (Keeps.refl _ _)⟩
  case round =>
    obtain ⟨i, rfl, rfl, hi, HC, HK⟩ := hrel
    by_cases hlt : i < 24
    · have hltI : (i : Int) < 24 := by omega
      obtain ⟨lo, hi9, ev, bb, hg, ⟨g0, g1, g2, g3⟩, -⟩ := moves_index i hlt w
      have hix : ∀ w, (Instr.index 111 (.agg LA) (.int .i64 (i : Int))).run Tryd.prog w = .ok (.agg #[.int .i32 lo, .int .i32 hi9, .int .i64 ev, .int .i32 bb]) w := by
        intro w
        obtain ⟨lo', hi', ev', by', hg', _, h⟩ := moves_index i hlt w
        rw [hg] at hg'
        injection hg' with hg'
        injection hg' with e1 e2
        injection e2 with e2 e3
        injection e3 with e3 e4
        rw [HLA.out, e1, e2, e3, e4]; exact h
      have hcl := HC.out
      have hd : movesP.drop i = (lo, hi9, ev, bb) :: movesP.drop (i + 1) := by
        obtain ⟨h9, h8⟩ := List.getElem?_eq_some_iff.1 hg
        rw [List.drop_eq_getElem_cons h9, h8]
      rw [hd] at hcl
      unfold foldL at hcl
      dsimp only at hcl
      have hbs := HK.out.size
      have hk2 := HK.out.alloc (fun b hb => Nat.lt_of_lt_of_le hb hbs) (.cells #[.int .i32 lo, .int .i32 hi9, .int .i64 ev, .int .i32 bb] 110)
      clear HC hd hg
      by_cases q0 : ev = 0
      · rw [if_pos (Or.inl q0)] at hcl
        have b0 : (ev == 0) = true := by simp [q0]
        have Q0 := hid q0
        clear q0
        have Hcl := hid hcl
        have Hk2 := hid hk2
        clear hcl hk2
        go_wp2_with fail
        exact hR'.out _ _ ⟨by rw [← Hcl.out]; first | rfl | skip, Hk2.out⟩
      have b0 : (ev == 0) = false := by simpa using q0
      by_cases q1 : r < lo
      · rw [if_pos (Or.inr q1)] at hcl
        have Hcl := hid hcl
        have Hk2 := hid hk2
        clear hcl hk2
        go_wp2_with fail
        exact hR'.out _ _ ⟨by rw [← Hcl.out]; first | rfl | skip, Hk2.out⟩
      rw [if_neg (by rintro (h | h); exact q0 h; exact q1 h)] at hcl
      by_cases q2 : r > hi9
      · rw [if_pos q2] at hcl
        have Hcl := hid hcl
        have Hk2 := hid hk2
        clear hcl hk2
        go_wp2_with fail
        go_roundw
        case rel => exact ⟨i + 1, rfl, by go_num, by omega, Hcl, Hk2⟩
        case measure => first | (simp [intOf]; done) | (simp [intOf]; omega)
      rw [if_neg q2] at hcl
      by_cases q3 : ev = 1
      · rw [if_pos (Or.inl q3)] at hcl
        have b1 : (ev == 1) = true := by simp [q3]
        have Q3 := hid q3
        clear q3 q0
        have Hcl := hid hcl
        have Hk2 := hid hk2
        clear hcl hk2
        go_wp2_with fail
        exact hR'.out _ _ ⟨by rw [← Hcl.out]; first | rfl | skip, Hk2.out⟩
      have b1 : (ev == 1) = false := by simpa using q3
      have hr2 : r.tmod 2 = r % 2 := Int.tmod_eq_emod_of_nonneg (by omega)
      have hbd : -2147483648 ≤ r + bb ∧ r + bb ≤ 2147483647 := by omega
      by_cases q4 : ev = 2
      · have b2 : (ev == 2) = true := by simp [q4]
        have b3 : (ev == 3) = false := by simp [q4]
        by_cases q5 : r % 2 = 0
        · rw [if_pos (Or.inr (Or.inl ⟨q4, q5⟩))] at hcl
          have b5 : (r % 2 == 0) = true := by simp [q5]
          clear q0 q3 q4 q5 hr2
          have Hcl := hid hcl
          have Hk2 := hid hk2
          clear hcl hk2
          go_wp2_with fail
          exact hR'.out _ _ ⟨by rw [← Hcl.out]; first | rfl | skip, Hk2.out⟩
        · rw [if_neg (by omega)] at hcl
          have b5 : (r % 2 == 0) = false := by simpa using q5
          clear q0 q3 q4 q5 hr2
          have Hcl := hid hcl
          have Hk2 := hid hk2
          clear hcl hk2
          go_wp2_with fail
          exact hR'.out _ _ ⟨by rw [← Hcl.out]; first | rfl | skip, Hk2.out⟩
      have b2 : (ev == 2) = false := by simpa using q4
      by_cases q6 : ev = 3
      · have b3 : (ev == 3) = true := by simp [q6]
        by_cases q5 : r % 2 = 1
        · rw [if_pos (Or.inr (Or.inr ⟨q6, q5⟩))] at hcl
          have b5 : (r % 2 == 1) = true := by simp [q5]
          clear q0 q3 q4 q5 q6 hr2
          have Hcl := hid hcl
          have Hk2 := hid hk2
          clear hcl hk2
          go_wp2_with fail
          exact hR'.out _ _ ⟨by rw [← Hcl.out]; first | rfl | skip, Hk2.out⟩
        · rw [if_neg (by omega)] at hcl
          have b5 : (r % 2 == 1) = false := by simpa using q5
          clear q0 q3 q4 q5 q6 hr2
          have Hcl := hid hcl
          have Hk2 := hid hk2
          clear hcl hk2
          go_wp2_with fail
          exact hR'.out _ _ ⟨by rw [← Hcl.out]; first | rfl | skip, Hk2.out⟩
      have b3 : (ev == 3) = false := by simpa using q6
      rw [if_neg (by omega)] at hcl
      clear q0 q3 q4 q6 hr2
      have Hcl := hid hcl
      have Hk2 := hid hk2
      clear hcl hk2
      go_wp2_with fail
      exact hR'.out _ _ ⟨by rw [← Hcl.out]; first | rfl | skip, Hk2.out⟩
    · obtain rfl : i = 24 := by omega
      have hcl := HC.out
      have hcl : r = foldM r := hcl
      have HCL := hid hcl
      clear hcl
      go_wp2_with fail
      exact hR'.out _ _ ⟨by rw [← HCL.out]; first | rfl | skip, HK.out⟩
end Go.Proofs.YtbepgbkbpkaodaaDoor
