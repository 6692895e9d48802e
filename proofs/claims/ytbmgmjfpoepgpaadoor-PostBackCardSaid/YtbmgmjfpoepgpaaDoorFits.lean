/- Contract of the second reference: Fits. Printed by gen/fits.py. -/
import Derived.Test.YtbmgmjfpoepgpaaDoorLay
import Derived.Test.YtbmgmjfpoepgpaaDoorPoolT
import Derived.BigQuiet
namespace Go.Proofs.YtbmgmjfpoepgpaaDoor
open Go.RowKit

def V6.g (v : V6) : Nat → Int
  | 0 => v.a0
  | 1 => v.a1
  | 2 => v.a2
  | 3 => v.a3
  | 4 => v.a4
  | _ => v.a5
set_option maxRecDepth 100000 in
set_option maxHeartbeats 8000000 in
theorem fits_ref (p : PlanM) (u m : V6) (w : World) (hu : ∀ k, k < 6 → 0 ≤ u.g k ∧ u.g k ≤ p.size.g k ∧ p.size.g k ≤ 65536 ∧ 0 ≤ m.g k) :
    Calls Tryd.prog 16 #[p.val, u.val, m.val] w fun e w' => ((e = .returned (.bool true) ∧ ∀ k, k < 6 → m.g k ≤ p.size.g k - u.g k) ∨ e = .returned (.bool false)) ∧ Keeps (· < w.heap.size) w w' := by
  have HU := hid hu
  clear hu
  refine calls_hide fun R' hR' => ?_
  unfold PlanM.val V6.val
  go_enter Tryd.func16, Tryd.ntmps16
  go_wp2_with fail
  refine wp_gen (fun W => Blk W w.heap.size p.flat ∧ Blk W (w.heap.size + 1) [.int .i64 u.a0, .int .i64 u.a1, .int .i64 u.a2, .int .i64 u.a3, .int .i64 u.a4, .int .i64 u.a5] ∧ Blk W (w.heap.size + 1 + 1) [.int .i64 m.a0, .int .i64 m.a1, .int .i64 m.a2, .int .i64 m.a3, .int .i64 m.a4, .int .i64 m.a5] ∧ Keeps (· < w.heap.size) w W) ⟨?_, ?_, ?_, ?_⟩ ?_
  · have h0 := Blk.new w p.flat 29
    repeat (first | exact h0 | refine Blk.alloc ?_ _)
  · repeat (first | with_reducible assumption | with_reducible exact Blk.new _ _ _ | with_reducible refine Blk.drew ?_ | with_reducible refine Blk.drewN ?_ _ | with_reducible refine Blk.set_ne ?_ _ ?_ | (with_reducible refine Blk.new' _ _ _ ?_; focus (simp; done)) | with_reducible refine Blk.alloc ?_ _)
    all_goals (first | assumption | (simp; done) | (simp; omega))
  · repeat (first | with_reducible assumption | with_reducible exact Blk.new _ _ _ | with_reducible refine Blk.drew ?_ | with_reducible refine Blk.drewN ?_ _ | with_reducible refine Blk.set_ne ?_ _ ?_ | (with_reducible refine Blk.new' _ _ _ ?_; focus (simp; done)) | with_reducible refine Blk.alloc ?_ _)
    all_goals (first | assumption | (simp; done) | (simp; omega))
  · repeat (first | with_reducible assumption | with_reducible exact Keeps.refl _ _ | with_reducible refine Keeps.drew ?_ | with_reducible refine Keeps.drewN ?_ _ | with_reducible refine Keeps.setCell ?_ ?_ _ | with_reducible refine Keeps.alloc ?_ ?_ _)
    all_goals (first | (simp; done) | (simp; omega) | (intro b hb; first | exact hb | omega | (simp; omega) | (simp only [World.size_alloc]; omega)))
  rintro w0 ⟨hb0, hb1, hb2, hk0⟩
  generalize hB : w.heap.size = B at *
  have Hb0 := hid hb0
  have Hb1 := hid hb1
  have Hb2 := hid hb2
  have Hk0 := hid hk0
  have HB := hid hB
  clear hb0 hb1 hb2 hk0 hB
  go_loopw [7] (fun vi wr => ∃ k : Nat, vi = .int .i64 (k : Int) ∧ k ≤ 6 ∧ Hid (Blk wr B p.flat ∧ Blk wr (B + 1) [.int .i64 u.a0, .int .i64 u.a1, .int .i64 u.a2, .int .i64 u.a3, .int .i64 u.a4, .int .i64 u.a5] ∧ Blk wr (B + 1 + 1) [.int .i64 m.a0, .int .i64 m.a1, .int .i64 m.a2, .int .i64 m.a3, .int .i64 m.a4, .int .i64 m.a5] ∧ Keeps (· < B) w wr ∧ ∀ j, j < k → m.g j ≤ p.size.g j - u.g j)) (fun i _ => 6 - (intOf i).toNat)
  case atStart => exact ⟨0, rfl, by omega, hid ⟨Hb0.out, Hb1.out, Hb2.out, Hk0.out, fun j h => by omega⟩⟩
  case round =>
    clear Hb0 Hb1 Hb2 Hk0
    obtain ⟨k, rfl, hk, HH⟩ := hrel
    obtain ⟨hb0, hb1, hb2, hkp, hno⟩ := HH.out
    clear HH
    have Hkp := hid hkp
    have Hno := hid hno
    clear hkp hno
    by_cases hk4 : k < 6
    · have hcases : k = 0 ∨ k = 1 ∨ k = 2 ∨ k = 3 ∨ k = 4 ∨ k = 5 := by omega
      clear hk hk4
      rcases hcases with rfl | rfl | rfl | rfl | rfl | rfl
      · have c0 := hb0.cell 6
        change _ = some (Value.int .i64 (p.size.g 0)) at c0
        have c1 := hb1.cell 0
        change _ = some (Value.int .i64 (u.g 0)) at c1
        have c2 := hb2.cell 0
        change _ = some (Value.int .i64 (m.g 0)) at c2
        obtain ⟨x0, x1, x2, x3⟩ := HU.out 0 (by omega)
        have HNX := hid (show m.g 0 ≤ p.size.g 0 - u.g 0 → ∀ j, j < 1 → m.g j ≤ p.size.g j - u.g j from fun h j hj => by
          by_cases e : j < 0
          · exact Hno.out j e
          · obtain rfl : j = 0 := by omega
            exact h)
        generalize p.size.g 0 = S at *
        generalize u.g 0 = U at *
        generalize m.g 0 = M at *
        have g1 : decide (U < 0) = false := decide_eq_false (by omega)
        have g2 : decide (M < 0) = false := decide_eq_false (by omega)
        have g3 : decide (U > S) = false := decide_eq_false (by omega)
        have g4 : IntKind.i64.wrap (S - U) = S - U := IntWalk.i64_in _ (by omega)
        by_cases hle : M ≤ S - U
        · have g5 : decide (S - U < M) = false := decide_eq_false (by omega)
          have HG := hid (HNX.out hle)
          have Hb0 := hid hb0
          have Hb1 := hid hb1
          have Hb2 := hid hb2
          clear hb0 hb1 hb2
          clear hle x0 x1 x2 x3
          go_wp2_with fail
          go_quiet (fail)
          go_wp2_with fail
          go_roundw
          case rel =>
            refine ⟨1, by first | rfl | go_num, by omega, hid ⟨?_, ?_, ?_, ?_, HG.out⟩⟩
            · repeat (first | exact Hb0.out | with_reducible refine Blk.drew ?_ | with_reducible refine Blk.drewN ?_ _)
            · repeat (first | exact Hb1.out | with_reducible refine Blk.drew ?_ | with_reducible refine Blk.drewN ?_ _)
            · repeat (first | exact Hb2.out | with_reducible refine Blk.drew ?_ | with_reducible refine Blk.drewN ?_ _)
            · repeat (first | exact Hkp.out | with_reducible refine Keeps.drew ?_ | with_reducible refine Keeps.drewN ?_ _)
          case measure => simp [intOf]
        · have g5 : decide (S - U < M) = true := decide_eq_true (by omega)
          clear hle x0 x1 x2 x3 hb0 hb1 hb2
          go_wp2_with fail
          go_quiet (fail)
          go_wp2_with fail
          refine hR'.out _ _ ⟨?_, ?_⟩
          · exact Or.inr rfl
          · repeat (first | exact Hkp.out | with_reducible refine Keeps.drew ?_ | with_reducible refine Keeps.drewN ?_ _)
      · have c0 := hb0.cell 7
        change _ = some (Value.int .i64 (p.size.g 1)) at c0
        have c1 := hb1.cell 1
        change _ = some (Value.int .i64 (u.g 1)) at c1
        have c2 := hb2.cell 1
        change _ = some (Value.int .i64 (m.g 1)) at c2
        obtain ⟨x0, x1, x2, x3⟩ := HU.out 1 (by omega)
        have HNX := hid (show m.g 1 ≤ p.size.g 1 - u.g 1 → ∀ j, j < 2 → m.g j ≤ p.size.g j - u.g j from fun h j hj => by
          by_cases e : j < 1
          · exact Hno.out j e
          · obtain rfl : j = 1 := by omega
            exact h)
        generalize p.size.g 1 = S at *
        generalize u.g 1 = U at *
        generalize m.g 1 = M at *
        have g1 : decide (U < 0) = false := decide_eq_false (by omega)
        have g2 : decide (M < 0) = false := decide_eq_false (by omega)
        have g3 : decide (U > S) = false := decide_eq_false (by omega)
        have g4 : IntKind.i64.wrap (S - U) = S - U := IntWalk.i64_in _ (by omega)
        by_cases hle : M ≤ S - U
        · have g5 : decide (S - U < M) = false := decide_eq_false (by omega)
          have HG := hid (HNX.out hle)
          have Hb0 := hid hb0
          have Hb1 := hid hb1
          have Hb2 := hid hb2
          clear hb0 hb1 hb2
          clear hle x0 x1 x2 x3
          go_wp2_with fail
          go_quiet (fail)
          go_wp2_with fail
          go_roundw
          case rel =>
            refine ⟨2, by first | rfl | go_num, by omega, hid ⟨?_, ?_, ?_, ?_, HG.out⟩⟩
            · repeat (first | exact Hb0.out | with_reducible refine Blk.drew ?_ | with_reducible refine Blk.drewN ?_ _)
            · repeat (first | exact Hb1.out | with_reducible refine Blk.drew ?_ | with_reducible refine Blk.drewN ?_ _)
            · repeat (first | exact Hb2.out | with_reducible refine Blk.drew ?_ | with_reducible refine Blk.drewN ?_ _)
            · repeat (first | exact Hkp.out | with_reducible refine Keeps.drew ?_ | with_reducible refine Keeps.drewN ?_ _)
          case measure => simp [intOf]
        · have g5 : decide (S - U < M) = true := decide_eq_true (by omega)
          clear hle x0 x1 x2 x3 hb0 hb1 hb2
          go_wp2_with fail
          go_quiet (fail)
          go_wp2_with fail
          refine hR'.out _ _ ⟨?_, ?_⟩
          · exact Or.inr rfl
          · repeat (first | exact Hkp.out | with_reducible refine Keeps.drew ?_ | with_reducible refine Keeps.drewN ?_ _)
      · have c0 := hb0.cell 8
        change _ = some (Value.int .i64 (p.size.g 2)) at c0
        have c1 := hb1.cell 2
        change _ = some (Value.int .i64 (u.g 2)) at c1
        have c2 := hb2.cell 2
        change _ = some (Value.int .i64 (m.g 2)) at c2
        obtain ⟨x0, x1, x2, x3⟩ := HU.out 2 (by omega)
        have HNX := hid (show m.g 2 ≤ p.size.g 2 - u.g 2 → ∀ j, j < 3 → m.g j ≤ p.size.g j - u.g j from fun h j hj => by
          by_cases e : j < 2
          · exact Hno.out j e
          · obtain rfl : j = 2 := by omega
            exact h)
        generalize p.size.g 2 = S at *
        generalize u.g 2 = U at *
        generalize m.g 2 = M at *
        have g1 : decide (U < 0) = false := decide_eq_false (by omega)
        have g2 : decide (M < 0) = false := decide_eq_false (by omega)
        have g3 : decide (U > S) = false := decide_eq_false (by omega)
        have g4 : IntKind.i64.wrap (S - U) = S - U := IntWalk.i64_in _ (by omega)
        by_cases hle : M ≤ S - U
        · have g5 : decide (S - U < M) = false := decide_eq_false (by omega)
          have HG := hid (HNX.out hle)
          have Hb0 := hid hb0
          have Hb1 := hid hb1
          have Hb2 := hid hb2
          clear hb0 hb1 hb2
          clear hle x0 x1 x2 x3
          go_wp2_with fail
          go_quiet (fail)
          go_wp2_with fail
          go_roundw
          case rel =>
            refine ⟨3, by first | rfl | go_num, by omega, hid ⟨?_, ?_, ?_, ?_, HG.out⟩⟩
            · repeat (first | exact Hb0.out | with_reducible refine Blk.drew ?_ | with_reducible refine Blk.drewN ?_ _)
            · repeat (first | exact Hb1.out | with_reducible refine Blk.drew ?_ | with_reducible refine Blk.drewN ?_ _)
            · repeat (first | exact Hb2.out | with_reducible refine Blk.drew ?_ | with_reducible refine Blk.drewN ?_ _)
            · repeat (first | exact Hkp.out | with_reducible refine Keeps.drew ?_ | with_reducible refine Keeps.drewN ?_ _)
          case measure => simp [intOf]
        · have g5 : decide (S - U < M) = true := decide_eq_true (by omega)
          clear hle x0 x1 x2 x3 hb0 hb1 hb2
          go_wp2_with fail
          go_quiet (fail)
          go_wp2_with fail
          refine hR'.out _ _ ⟨?_, ?_⟩
          · exact Or.inr rfl
          · repeat (first | exact Hkp.out | with_reducible refine Keeps.drew ?_ | with_reducible refine Keeps.drewN ?_ _)
      · have c0 := hb0.cell 9
        change _ = some (Value.int .i64 (p.size.g 3)) at c0
        have c1 := hb1.cell 3
        change _ = some (Value.int .i64 (u.g 3)) at c1
        have c2 := hb2.cell 3
        change _ = some (Value.int .i64 (m.g 3)) at c2
        obtain ⟨x0, x1, x2, x3⟩ := HU.out 3 (by omega)
        have HNX := hid (show m.g 3 ≤ p.size.g 3 - u.g 3 → ∀ j, j < 4 → m.g j ≤ p.size.g j - u.g j from fun h j hj => by
          by_cases e : j < 3
          · exact Hno.out j e
          · obtain rfl : j = 3 := by omega
            exact h)
        generalize p.size.g 3 = S at *
        generalize u.g 3 = U at *
        generalize m.g 3 = M at *
        have g1 : decide (U < 0) = false := decide_eq_false (by omega)
        have g2 : decide (M < 0) = false := decide_eq_false (by omega)
        have g3 : decide (U > S) = false := decide_eq_false (by omega)
        have g4 : IntKind.i64.wrap (S - U) = S - U := IntWalk.i64_in _ (by omega)
        by_cases hle : M ≤ S - U
        · have g5 : decide (S - U < M) = false := decide_eq_false (by omega)
          have HG := hid (HNX.out hle)
          have Hb0 := hid hb0
          have Hb1 := hid hb1
          have Hb2 := hid hb2
          clear hb0 hb1 hb2
          clear hle x0 x1 x2 x3
          go_wp2_with fail
          go_quiet (fail)
          go_wp2_with fail
          go_roundw
          case rel =>
            refine ⟨4, by first | rfl | go_num, by omega, hid ⟨?_, ?_, ?_, ?_, HG.out⟩⟩
            · repeat (first | exact Hb0.out | with_reducible refine Blk.drew ?_ | with_reducible refine Blk.drewN ?_ _)
            · repeat (first | exact Hb1.out | with_reducible refine Blk.drew ?_ | with_reducible refine Blk.drewN ?_ _)
            · repeat (first | exact Hb2.out | with_reducible refine Blk.drew ?_ | with_reducible refine Blk.drewN ?_ _)
            · repeat (first | exact Hkp.out | with_reducible refine Keeps.drew ?_ | with_reducible refine Keeps.drewN ?_ _)
          case measure => simp [intOf]
        · have g5 : decide (S - U < M) = true := decide_eq_true (by omega)
          clear hle x0 x1 x2 x3 hb0 hb1 hb2
          go_wp2_with fail
          go_quiet (fail)
          go_wp2_with fail
          refine hR'.out _ _ ⟨?_, ?_⟩
          · exact Or.inr rfl
          · repeat (first | exact Hkp.out | with_reducible refine Keeps.drew ?_ | with_reducible refine Keeps.drewN ?_ _)
      · have c0 := hb0.cell 10
        change _ = some (Value.int .i64 (p.size.g 4)) at c0
        have c1 := hb1.cell 4
        change _ = some (Value.int .i64 (u.g 4)) at c1
        have c2 := hb2.cell 4
        change _ = some (Value.int .i64 (m.g 4)) at c2
        obtain ⟨x0, x1, x2, x3⟩ := HU.out 4 (by omega)
        have HNX := hid (show m.g 4 ≤ p.size.g 4 - u.g 4 → ∀ j, j < 5 → m.g j ≤ p.size.g j - u.g j from fun h j hj => by
          by_cases e : j < 4
          · exact Hno.out j e
          · obtain rfl : j = 4 := by omega
            exact h)
        generalize p.size.g 4 = S at *
        generalize u.g 4 = U at *
        generalize m.g 4 = M at *
        have g1 : decide (U < 0) = false := decide_eq_false (by omega)
        have g2 : decide (M < 0) = false := decide_eq_false (by omega)
        have g3 : decide (U > S) = false := decide_eq_false (by omega)
        have g4 : IntKind.i64.wrap (S - U) = S - U := IntWalk.i64_in _ (by omega)
        by_cases hle : M ≤ S - U
        · have g5 : decide (S - U < M) = false := decide_eq_false (by omega)
          have HG := hid (HNX.out hle)
          have Hb0 := hid hb0
          have Hb1 := hid hb1
          have Hb2 := hid hb2
          clear hb0 hb1 hb2
          clear hle x0 x1 x2 x3
          go_wp2_with fail
          go_quiet (fail)
          go_wp2_with fail
          go_roundw
          case rel =>
            refine ⟨5, by first | rfl | go_num, by omega, hid ⟨?_, ?_, ?_, ?_, HG.out⟩⟩
            · repeat (first | exact Hb0.out | with_reducible refine Blk.drew ?_ | with_reducible refine Blk.drewN ?_ _)
            · repeat (first | exact Hb1.out | with_reducible refine Blk.drew ?_ | with_reducible refine Blk.drewN ?_ _)
            · repeat (first | exact Hb2.out | with_reducible refine Blk.drew ?_ | with_reducible refine Blk.drewN ?_ _)
            · repeat (first | exact Hkp.out | with_reducible refine Keeps.drew ?_ | with_reducible refine Keeps.drewN ?_ _)
          case measure => simp [intOf]
        · have g5 : decide (S - U < M) = true := decide_eq_true (by omega)
          clear hle x0 x1 x2 x3 hb0 hb1 hb2
          go_wp2_with fail
          go_quiet (fail)
          go_wp2_with fail
          refine hR'.out _ _ ⟨?_, ?_⟩
          · exact Or.inr rfl
          · repeat (first | exact Hkp.out | with_reducible refine Keeps.drew ?_ | with_reducible refine Keeps.drewN ?_ _)
      · have c0 := hb0.cell 11
        change _ = some (Value.int .i64 (p.size.g 5)) at c0
        have c1 := hb1.cell 5
        change _ = some (Value.int .i64 (u.g 5)) at c1
        have c2 := hb2.cell 5
        change _ = some (Value.int .i64 (m.g 5)) at c2
        obtain ⟨x0, x1, x2, x3⟩ := HU.out 5 (by omega)
        have HNX := hid (show m.g 5 ≤ p.size.g 5 - u.g 5 → ∀ j, j < 6 → m.g j ≤ p.size.g j - u.g j from fun h j hj => by
          by_cases e : j < 5
          · exact Hno.out j e
          · obtain rfl : j = 5 := by omega
            exact h)
        generalize p.size.g 5 = S at *
        generalize u.g 5 = U at *
        generalize m.g 5 = M at *
        have g1 : decide (U < 0) = false := decide_eq_false (by omega)
        have g2 : decide (M < 0) = false := decide_eq_false (by omega)
        have g3 : decide (U > S) = false := decide_eq_false (by omega)
        have g4 : IntKind.i64.wrap (S - U) = S - U := IntWalk.i64_in _ (by omega)
        by_cases hle : M ≤ S - U
        · have g5 : decide (S - U < M) = false := decide_eq_false (by omega)
          have HG := hid (HNX.out hle)
          have Hb0 := hid hb0
          have Hb1 := hid hb1
          have Hb2 := hid hb2
          clear hb0 hb1 hb2
          clear hle x0 x1 x2 x3
          go_wp2_with fail
          go_quiet (fail)
          go_wp2_with fail
          go_roundw
          case rel =>
            refine ⟨6, by first | rfl | go_num, by omega, hid ⟨?_, ?_, ?_, ?_, HG.out⟩⟩
            · repeat (first | exact Hb0.out | with_reducible refine Blk.drew ?_ | with_reducible refine Blk.drewN ?_ _)
            · repeat (first | exact Hb1.out | with_reducible refine Blk.drew ?_ | with_reducible refine Blk.drewN ?_ _)
            · repeat (first | exact Hb2.out | with_reducible refine Blk.drew ?_ | with_reducible refine Blk.drewN ?_ _)
            · repeat (first | exact Hkp.out | with_reducible refine Keeps.drew ?_ | with_reducible refine Keeps.drewN ?_ _)
          case measure => simp [intOf]
        · have g5 : decide (S - U < M) = true := decide_eq_true (by omega)
          clear hle x0 x1 x2 x3 hb0 hb1 hb2
          go_wp2_with fail
          go_quiet (fail)
          go_wp2_with fail
          refine hR'.out _ _ ⟨?_, ?_⟩
          · exact Or.inr rfl
          · repeat (first | exact Hkp.out | with_reducible refine Keeps.drew ?_ | with_reducible refine Keeps.drewN ?_ _)
    · obtain rfl : k = 6 := by omega
      clear hb0 hb1 hb2
      go_wp2_with fail
      refine hR'.out _ _ ⟨?_, ?_⟩
      · exact Or.inl ⟨rfl, Hno.out⟩
      · repeat (first | exact Hkp.out | with_reducible refine Keeps.drew ?_ | with_reducible refine Keeps.drewN ?_ _)

end Go.Proofs.YtbmgmjfpoepgpaaDoor
