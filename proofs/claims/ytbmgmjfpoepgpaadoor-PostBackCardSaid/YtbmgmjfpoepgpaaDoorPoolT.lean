/- Contracts of package pool: Take, at the pools of slabs. Printed by gen/take.py. -/
import Derived.Test.YtbmgmjfpoepgpaaDoorPoolC
namespace Go.Proofs.YtbmgmjfpoepgpaaDoor
open Go.RowKit
set_option maxRecDepth 100000 in
set_option maxHeartbeats 1000000 in
theorem take_yes0 (p : PlanM) (u : V6) (n : Int) (w : World) (h1 : 1 ≤ n) (h0 : 0 ≤ u.a0) (h2 : u.a0 + n ≤ p.size.a0) (h3 : p.size.a0 ≤ 65536) (hb : 0 ≤ p.base.a0 ∧ p.base.a0 ≤ 65536) :
    Calls Tryd.prog 61 #[p.val, u.val, .int .i64 0, .int .i64 n] w fun e w' =>
      e = .returned (.tuple #[.int .i64 (p.base.a0 + u.a0), V6.val { u with a0 := u.a0 + n }, .int .i64 0]) ∧ Keeps (· < w.heap.size) w w' := by
  obtain ⟨⟨b0, b1, b2, b3, b4, b5⟩, ⟨s0, s1, s2, s3, s4, s5⟩, pc, ps, pl⟩ := p
  obtain ⟨u0, u1, u2, u3, u4, u5⟩ := u
  simp only at h0 h2 h3 hb
  obtain ⟨hb0, hb1⟩ := hb
  have hu4 : u0 ≤ s0 := by omega
  have hd1 : decide (n < 1) = false := by simpa using h1
  refine calls_hide fun R' hR' => ?_
  unfold PlanM.val V6.val
  go_enter Tryd.func61, Tryd.ntmps61
  go_wp2_with fail
  go_quiet ((go_at_call 63; exact Calls.quiet_of_same (between_yes _ _ _ _ (by omega))))
  go_wp2_with fail
  have hw1 : IntKind.i64.wrap (s0 - u0) = s0 - u0 := IntWalk.i64_in _ (by omega)
  have hd2 : decide (s0 - u0 < n) = false := by simp; omega
  go_quiet (fail)
  go_wp2_with fail
  have hw2 : IntKind.i64.wrap (b0 + u0) = b0 + u0 := IntWalk.i64_in _ (by omega)
  refine wp_gen (fun W => Blk W w.heap.size [.int .i64 b0, .int .i64 b1, .int .i64 b2, .int .i64 b3, .int .i64 b4, .int .i64 b5, .int .i64 s0, .int .i64 s1, .int .i64 s2, .int .i64 s3, .int .i64 s4, .int .i64 s5, .int .i64 pc, .int .i64 ps, .int .i64 pl] ∧
    Blk W (w.heap.size + 1) [.int .i64 u0, .int .i64 u1, .int .i64 u2, .int .i64 u3, .int .i64 u4, .int .i64 u5] ∧ Blk W (w.heap.size + 1 + 1) [.int .i64 0, .int .i64 0, .int .i64 0, .int .i64 0, .int .i64 0, .int .i64 0] ∧ Keeps (· < w.heap.size) w W) ⟨?_, ?_, ?_, ?_⟩ ?_
  · repeat (first | with_reducible assumption | with_reducible exact Blk.new _ _ _ | with_reducible refine Blk.drew ?_ | with_reducible refine Blk.drewN ?_ _ | with_reducible refine Blk.set_ne ?_ _ ?_ | (with_reducible refine Blk.new' _ _ _ ?_; focus (simp; done)) | with_reducible refine Blk.alloc ?_ _)
    all_goals (first | assumption | (simp; done) | (simp; omega))
  · repeat (first | with_reducible assumption | with_reducible exact Blk.new _ _ _ | with_reducible refine Blk.drew ?_ | with_reducible refine Blk.drewN ?_ _ | with_reducible refine Blk.set_ne ?_ _ ?_ | (with_reducible refine Blk.new' _ _ _ ?_; focus (simp; done)) | with_reducible refine Blk.alloc ?_ _)
    all_goals (first | assumption | (simp; done) | (simp; omega))
  · repeat (first | with_reducible assumption | with_reducible exact Blk.new _ _ _ | with_reducible refine Blk.drew ?_ | with_reducible refine Blk.drewN ?_ _ | with_reducible refine Blk.set_ne ?_ _ ?_ | (with_reducible refine Blk.new' _ _ _ ?_; focus (simp; done)) | with_reducible refine Blk.alloc ?_ _)
    all_goals (first | assumption | (simp; done) | (simp; omega))
  · repeat (first | with_reducible assumption | with_reducible exact Keeps.refl _ _ | with_reducible refine Keeps.drew ?_ | with_reducible refine Keeps.drewN ?_ _ | with_reducible refine Keeps.setCell ?_ ?_ _ | with_reducible refine Keeps.alloc ?_ ?_ _)
    all_goals (first | (simp; done) | (simp; omega) | (intro b hb; first | exact hb | omega | (simp; omega) | (simp only [World.size_alloc]; omega)))
  rintro W ⟨hB0, hB1, hB2, hk⟩
  have c0 := hB0.cell
  have c1 := hB1.cell
  have f1 := hB1.free
  have f2 := hB2.free
  have c4 := hB0.cell 0
  have d4 := hB1.cell 0
  simp only [List.getElem?_cons_zero, List.getElem?_cons_succ] at c4 d4
  clear c0 c1
  go_quiet (fail)
  go_wp2_with fail
  clear c4 d4 f1 f2
  refine wp_gen (fun W' => Blk W' (w.heap.size + 1) [.int .i64 (u0 + n), .int .i64 u1, .int .i64 u2, .int .i64 u3, .int .i64 u4, .int .i64 u5] ∧ Blk W' (w.heap.size + 1 + 1) [.int .i64 0, .int .i64 0, .int .i64 0, .int .i64 0, .int .i64 0, .int .i64 0] ∧ Keeps (· < w.heap.size) w W') ⟨?_, ?_, ?_⟩ ?_
  · simpa using ((hB1.drewN nq).set 0 (.int .i64 (u0 + n)))
  · repeat (first | with_reducible assumption | with_reducible exact Blk.new _ _ _ | with_reducible refine Blk.drew ?_ | with_reducible refine Blk.drewN ?_ _ | with_reducible refine Blk.set_ne ?_ _ ?_ | (with_reducible refine Blk.new' _ _ _ ?_; focus (simp; done)) | with_reducible refine Blk.alloc ?_ _)
    all_goals (first | assumption | (simp; done) | (simp; omega))
  · repeat (first | with_reducible assumption | with_reducible exact Keeps.refl _ _ | with_reducible refine Keeps.drew ?_ | with_reducible refine Keeps.drewN ?_ _ | with_reducible refine Keeps.setCell ?_ ?_ _ | with_reducible refine Keeps.alloc ?_ ?_ _)
    all_goals (first | (simp; done) | (simp; omega) | (intro b hb; first | exact hb | omega | (simp; omega) | (simp only [World.size_alloc]; omega)))
  clear hB0 hB1 hB2 hk
  rintro W' ⟨hB1, hB2, hk⟩
  have c0 := (hB1).cell 0
  have c1 := (hB1).cell 1
  have c2 := (hB1).cell 2
  have c3 := (hB1).cell 3
  have c4 := (hB1).cell 4
  have c5 := (hB1).cell 5
  simp only [List.getElem?_cons_zero, List.getElem?_cons_succ] at c0 c1 c2 c3 c4 c5
  have d0 := (hB2).cell 0
  have d1 := (hB2).cell 1
  have d2 := (hB2).cell 2
  have d3 := (hB2).cell 3
  have d4 := (hB2).cell 4
  have d5 := (hB2).cell 5
  simp only [List.getElem?_cons_zero, List.getElem?_cons_succ] at d0 d1 d2 d3 d4 d5
  have f2 := hB2.free
  go_region
  go_wp2_with fail
  refine bp_gen (fun W => Blk W (w.heap.size + 1 + 1) [.int .i64 (u0 + n), .int .i64 u1, .int .i64 u2, .int .i64 u3, .int .i64 u4, .int .i64 u5] ∧ Keeps (· < w.heap.size) w W) ⟨?_, ?_⟩ ?_
  · exact ((((((hB2.set 0 _).set 1 _).set 2 _).set 3 _).set 4 _).set 5 _).drew
  · repeat (first | with_reducible assumption | with_reducible exact Keeps.refl _ _ | with_reducible refine Keeps.drew ?_ | with_reducible refine Keeps.drewN ?_ _ | with_reducible refine Keeps.setCell ?_ ?_ _ | with_reducible refine Keeps.alloc ?_ ?_ _)
    all_goals (first | (simp; done) | (simp; omega) | (intro b hb; first | exact hb | omega | (simp; omega) | (simp only [World.size_alloc]; omega)))
  clear hB1 hB2 hk c0 c1 c2 c3 c4 c5 d0 d1 d2 d3 d4 d5 f2
  rintro W2 ⟨hB2, hk⟩
  have d0 := (hB2).cell 0
  have d1 := (hB2).cell 1
  have d2 := (hB2).cell 2
  have d3 := (hB2).cell 3
  have d4 := (hB2).cell 4
  have d5 := (hB2).cell 5
  simp only [List.getElem?_cons_zero, List.getElem?_cons_succ] at d0 d1 d2 d3 d4 d5
  refine bodyPost_ret (v := .tuple #[.int .i64 (b0 + u0), .agg #[.int .i64 (u0 + n), .int .i64 u1, .int .i64 u2, .int .i64 u3, .int .i64 u4, .int .i64 u5], .int .i64 0]) ?_ rfl ?_
  · simp [results, Tryd.results61, go_sem, d0, d1, d2, d3, d4, d5]
  · exact hR'.out _ _ ⟨rfl, hk⟩

set_option maxRecDepth 100000 in
set_option maxHeartbeats 1000000 in
theorem take_no0 (p : PlanM) (u : V6) (n : Int) (w : World) (h1 : 1 ≤ n) (hn : n ≤ 1099511627776) (h0 : 0 ≤ u.a0) (hu : u.a0 ≤ p.size.a0) (h2 : p.size.a0 < u.a0 + n) (h3 : p.size.a0 ≤ 65536) :
    Calls Tryd.prog 61 #[p.val, u.val, .int .i64 0, .int .i64 n] w fun e w' =>
      e = .returned (.tuple #[.int .i64 0, V6.val ⟨0, 0, 0, 0, 0, 0⟩, .int .i64 3]) ∧ Keeps (· < w.heap.size) w w' := by
  obtain ⟨⟨b0, b1, b2, b3, b4, b5⟩, ⟨s0, s1, s2, s3, s4, s5⟩, pc, ps, pl⟩ := p
  obtain ⟨u0, u1, u2, u3, u4, u5⟩ := u
  simp only at h0 h2 h3 hu
  have hd1 : decide (n < 1) = false := by simpa using h1
  refine calls_hide fun R' hR' => ?_
  unfold PlanM.val V6.val
  go_enter Tryd.func61, Tryd.ntmps61
  go_wp2_with fail
  go_quiet ((go_at_call 63; exact Calls.quiet_of_same (between_yes _ _ _ _ (by omega))))
  go_wp2_with fail
  have hw1 : IntKind.i64.wrap (s0 - u0) = s0 - u0 := IntWalk.i64_in _ (by omega)
  have hd2 : decide (s0 - u0 < n) = true := by simp; omega
  go_quiet (fail)
  go_wp2_with fail
  refine bodyPost_ret (v := .tuple #[.int .i64 0, .agg #[.int .i64 0, .int .i64 0, .int .i64 0, .int .i64 0, .int .i64 0, .int .i64 0], .int .i64 3]) ?_ rfl ?_
  · simp [results, Tryd.results61, go_sem]
  · refine hR'.out _ _ ⟨rfl, ?_⟩
    repeat (first | with_reducible assumption | with_reducible exact Keeps.refl _ _ | with_reducible refine Keeps.drew ?_ | with_reducible refine Keeps.drewN ?_ _ | with_reducible refine Keeps.setCell ?_ ?_ _ | with_reducible refine Keeps.alloc ?_ ?_ _)
    all_goals (first | (simp; done) | (simp; omega) | (intro b hb; first | exact hb | omega | (simp; omega) | (simp only [World.size_alloc]; omega)))
set_option maxRecDepth 100000 in
set_option maxHeartbeats 1000000 in
theorem take_yes1 (p : PlanM) (u : V6) (n : Int) (w : World) (h1 : 1 ≤ n) (h0 : 0 ≤ u.a1) (h2 : u.a1 + n ≤ p.size.a1) (h3 : p.size.a1 ≤ 65536) (hb : 0 ≤ p.base.a1 ∧ p.base.a1 ≤ 65536) :
    Calls Tryd.prog 61 #[p.val, u.val, .int .i64 1, .int .i64 n] w fun e w' =>
      e = .returned (.tuple #[.int .i64 (p.base.a1 + u.a1), V6.val { u with a1 := u.a1 + n }, .int .i64 0]) ∧ Keeps (· < w.heap.size) w w' := by
  obtain ⟨⟨b0, b1, b2, b3, b4, b5⟩, ⟨s0, s1, s2, s3, s4, s5⟩, pc, ps, pl⟩ := p
  obtain ⟨u0, u1, u2, u3, u4, u5⟩ := u
  simp only at h0 h2 h3 hb
  obtain ⟨hb0, hb1⟩ := hb
  have hu4 : u1 ≤ s1 := by omega
  have hd1 : decide (n < 1) = false := by simpa using h1
  refine calls_hide fun R' hR' => ?_
  unfold PlanM.val V6.val
  go_enter Tryd.func61, Tryd.ntmps61
  go_wp2_with fail
  go_quiet ((go_at_call 63; exact Calls.quiet_of_same (between_yes _ _ _ _ (by omega))))
  go_wp2_with fail
  have hw1 : IntKind.i64.wrap (s1 - u1) = s1 - u1 := IntWalk.i64_in _ (by omega)
  have hd2 : decide (s1 - u1 < n) = false := by simp; omega
  go_quiet (fail)
  go_wp2_with fail
  have hw2 : IntKind.i64.wrap (b1 + u1) = b1 + u1 := IntWalk.i64_in _ (by omega)
  refine wp_gen (fun W => Blk W w.heap.size [.int .i64 b0, .int .i64 b1, .int .i64 b2, .int .i64 b3, .int .i64 b4, .int .i64 b5, .int .i64 s0, .int .i64 s1, .int .i64 s2, .int .i64 s3, .int .i64 s4, .int .i64 s5, .int .i64 pc, .int .i64 ps, .int .i64 pl] ∧
    Blk W (w.heap.size + 1) [.int .i64 u0, .int .i64 u1, .int .i64 u2, .int .i64 u3, .int .i64 u4, .int .i64 u5] ∧ Blk W (w.heap.size + 1 + 1) [.int .i64 0, .int .i64 0, .int .i64 0, .int .i64 0, .int .i64 0, .int .i64 0] ∧ Keeps (· < w.heap.size) w W) ⟨?_, ?_, ?_, ?_⟩ ?_
  · repeat (first | with_reducible assumption | with_reducible exact Blk.new _ _ _ | with_reducible refine Blk.drew ?_ | with_reducible refine Blk.drewN ?_ _ | with_reducible refine Blk.set_ne ?_ _ ?_ | (with_reducible refine Blk.new' _ _ _ ?_; focus (simp; done)) | with_reducible refine Blk.alloc ?_ _)
    all_goals (first | assumption | (simp; done) | (simp; omega))
  · repeat (first | with_reducible assumption | with_reducible exact Blk.new _ _ _ | with_reducible refine Blk.drew ?_ | with_reducible refine Blk.drewN ?_ _ | with_reducible refine Blk.set_ne ?_ _ ?_ | (with_reducible refine Blk.new' _ _ _ ?_; focus (simp; done)) | with_reducible refine Blk.alloc ?_ _)
    all_goals (first | assumption | (simp; done) | (simp; omega))
  · repeat (first | with_reducible assumption | with_reducible exact Blk.new _ _ _ | with_reducible refine Blk.drew ?_ | with_reducible refine Blk.drewN ?_ _ | with_reducible refine Blk.set_ne ?_ _ ?_ | (with_reducible refine Blk.new' _ _ _ ?_; focus (simp; done)) | with_reducible refine Blk.alloc ?_ _)
    all_goals (first | assumption | (simp; done) | (simp; omega))
  · repeat (first | with_reducible assumption | with_reducible exact Keeps.refl _ _ | with_reducible refine Keeps.drew ?_ | with_reducible refine Keeps.drewN ?_ _ | with_reducible refine Keeps.setCell ?_ ?_ _ | with_reducible refine Keeps.alloc ?_ ?_ _)
    all_goals (first | (simp; done) | (simp; omega) | (intro b hb; first | exact hb | omega | (simp; omega) | (simp only [World.size_alloc]; omega)))
  rintro W ⟨hB0, hB1, hB2, hk⟩
  have c0 := hB0.cell
  have c1 := hB1.cell
  have f1 := hB1.free
  have f2 := hB2.free
  have c4 := hB0.cell 1
  have d4 := hB1.cell 1
  simp only [List.getElem?_cons_zero, List.getElem?_cons_succ] at c4 d4
  clear c0 c1
  go_quiet (fail)
  go_wp2_with fail
  clear c4 d4 f1 f2
  refine wp_gen (fun W' => Blk W' (w.heap.size + 1) [.int .i64 u0, .int .i64 (u1 + n), .int .i64 u2, .int .i64 u3, .int .i64 u4, .int .i64 u5] ∧ Blk W' (w.heap.size + 1 + 1) [.int .i64 0, .int .i64 0, .int .i64 0, .int .i64 0, .int .i64 0, .int .i64 0] ∧ Keeps (· < w.heap.size) w W') ⟨?_, ?_, ?_⟩ ?_
  · simpa using ((hB1.drewN nq).set 1 (.int .i64 (u1 + n)))
  · repeat (first | with_reducible assumption | with_reducible exact Blk.new _ _ _ | with_reducible refine Blk.drew ?_ | with_reducible refine Blk.drewN ?_ _ | with_reducible refine Blk.set_ne ?_ _ ?_ | (with_reducible refine Blk.new' _ _ _ ?_; focus (simp; done)) | with_reducible refine Blk.alloc ?_ _)
    all_goals (first | assumption | (simp; done) | (simp; omega))
  · repeat (first | with_reducible assumption | with_reducible exact Keeps.refl _ _ | with_reducible refine Keeps.drew ?_ | with_reducible refine Keeps.drewN ?_ _ | with_reducible refine Keeps.setCell ?_ ?_ _ | with_reducible refine Keeps.alloc ?_ ?_ _)
    all_goals (first | (simp; done) | (simp; omega) | (intro b hb; first | exact hb | omega | (simp; omega) | (simp only [World.size_alloc]; omega)))
  clear hB0 hB1 hB2 hk
  rintro W' ⟨hB1, hB2, hk⟩
  have c0 := (hB1).cell 0
  have c1 := (hB1).cell 1
  have c2 := (hB1).cell 2
  have c3 := (hB1).cell 3
  have c4 := (hB1).cell 4
  have c5 := (hB1).cell 5
  simp only [List.getElem?_cons_zero, List.getElem?_cons_succ] at c0 c1 c2 c3 c4 c5
  have d0 := (hB2).cell 0
  have d1 := (hB2).cell 1
  have d2 := (hB2).cell 2
  have d3 := (hB2).cell 3
  have d4 := (hB2).cell 4
  have d5 := (hB2).cell 5
  simp only [List.getElem?_cons_zero, List.getElem?_cons_succ] at d0 d1 d2 d3 d4 d5
  have f2 := hB2.free
  go_region
  go_wp2_with fail
  refine bp_gen (fun W => Blk W (w.heap.size + 1 + 1) [.int .i64 u0, .int .i64 (u1 + n), .int .i64 u2, .int .i64 u3, .int .i64 u4, .int .i64 u5] ∧ Keeps (· < w.heap.size) w W) ⟨?_, ?_⟩ ?_
  · exact ((((((hB2.set 0 _).set 1 _).set 2 _).set 3 _).set 4 _).set 5 _).drew
  · repeat (first | with_reducible assumption | with_reducible exact Keeps.refl _ _ | with_reducible refine Keeps.drew ?_ | with_reducible refine Keeps.drewN ?_ _ | with_reducible refine Keeps.setCell ?_ ?_ _ | with_reducible refine Keeps.alloc ?_ ?_ _)
    all_goals (first | (simp; done) | (simp; omega) | (intro b hb; first | exact hb | omega | (simp; omega) | (simp only [World.size_alloc]; omega)))
  clear hB1 hB2 hk c0 c1 c2 c3 c4 c5 d0 d1 d2 d3 d4 d5 f2
  rintro W2 ⟨hB2, hk⟩
  have d0 := (hB2).cell 0
  have d1 := (hB2).cell 1
  have d2 := (hB2).cell 2
  have d3 := (hB2).cell 3
  have d4 := (hB2).cell 4
  have d5 := (hB2).cell 5
  simp only [List.getElem?_cons_zero, List.getElem?_cons_succ] at d0 d1 d2 d3 d4 d5
  refine bodyPost_ret (v := .tuple #[.int .i64 (b1 + u1), .agg #[.int .i64 u0, .int .i64 (u1 + n), .int .i64 u2, .int .i64 u3, .int .i64 u4, .int .i64 u5], .int .i64 0]) ?_ rfl ?_
  · simp [results, Tryd.results61, go_sem, d0, d1, d2, d3, d4, d5]
  · exact hR'.out _ _ ⟨rfl, hk⟩

set_option maxRecDepth 100000 in
set_option maxHeartbeats 1000000 in
theorem take_no1 (p : PlanM) (u : V6) (n : Int) (w : World) (h1 : 1 ≤ n) (hn : n ≤ 1099511627776) (h0 : 0 ≤ u.a1) (hu : u.a1 ≤ p.size.a1) (h2 : p.size.a1 < u.a1 + n) (h3 : p.size.a1 ≤ 65536) :
    Calls Tryd.prog 61 #[p.val, u.val, .int .i64 1, .int .i64 n] w fun e w' =>
      e = .returned (.tuple #[.int .i64 0, V6.val ⟨0, 0, 0, 0, 0, 0⟩, .int .i64 3]) ∧ Keeps (· < w.heap.size) w w' := by
  obtain ⟨⟨b0, b1, b2, b3, b4, b5⟩, ⟨s0, s1, s2, s3, s4, s5⟩, pc, ps, pl⟩ := p
  obtain ⟨u0, u1, u2, u3, u4, u5⟩ := u
  simp only at h0 h2 h3 hu
  have hd1 : decide (n < 1) = false := by simpa using h1
  refine calls_hide fun R' hR' => ?_
  unfold PlanM.val V6.val
  go_enter Tryd.func61, Tryd.ntmps61
  go_wp2_with fail
  go_quiet ((go_at_call 63; exact Calls.quiet_of_same (between_yes _ _ _ _ (by omega))))
  go_wp2_with fail
  have hw1 : IntKind.i64.wrap (s1 - u1) = s1 - u1 := IntWalk.i64_in _ (by omega)
  have hd2 : decide (s1 - u1 < n) = true := by simp; omega
  go_quiet (fail)
  go_wp2_with fail
  refine bodyPost_ret (v := .tuple #[.int .i64 0, .agg #[.int .i64 0, .int .i64 0, .int .i64 0, .int .i64 0, .int .i64 0, .int .i64 0], .int .i64 3]) ?_ rfl ?_
  · simp [results, Tryd.results61, go_sem]
  · refine hR'.out _ _ ⟨rfl, ?_⟩
    repeat (first | with_reducible assumption | with_reducible exact Keeps.refl _ _ | with_reducible refine Keeps.drew ?_ | with_reducible refine Keeps.drewN ?_ _ | with_reducible refine Keeps.setCell ?_ ?_ _ | with_reducible refine Keeps.alloc ?_ ?_ _)
    all_goals (first | (simp; done) | (simp; omega) | (intro b hb; first | exact hb | omega | (simp; omega) | (simp only [World.size_alloc]; omega)))
set_option maxRecDepth 100000 in
set_option maxHeartbeats 1000000 in
theorem take_yes2 (p : PlanM) (u : V6) (n : Int) (w : World) (h1 : 1 ≤ n) (h0 : 0 ≤ u.a2) (h2 : u.a2 + n ≤ p.size.a2) (h3 : p.size.a2 ≤ 65536) (hb : 0 ≤ p.base.a2 ∧ p.base.a2 ≤ 65536) :
    Calls Tryd.prog 61 #[p.val, u.val, .int .i64 2, .int .i64 n] w fun e w' =>
      e = .returned (.tuple #[.int .i64 (p.base.a2 + u.a2), V6.val { u with a2 := u.a2 + n }, .int .i64 0]) ∧ Keeps (· < w.heap.size) w w' := by
  obtain ⟨⟨b0, b1, b2, b3, b4, b5⟩, ⟨s0, s1, s2, s3, s4, s5⟩, pc, ps, pl⟩ := p
  obtain ⟨u0, u1, u2, u3, u4, u5⟩ := u
  simp only at h0 h2 h3 hb
  obtain ⟨hb0, hb1⟩ := hb
  have hu4 : u2 ≤ s2 := by omega
  have hd1 : decide (n < 1) = false := by simpa using h1
  refine calls_hide fun R' hR' => ?_
  unfold PlanM.val V6.val
  go_enter Tryd.func61, Tryd.ntmps61
  go_wp2_with fail
  go_quiet ((go_at_call 63; exact Calls.quiet_of_same (between_yes _ _ _ _ (by omega))))
  go_wp2_with fail
  have hw1 : IntKind.i64.wrap (s2 - u2) = s2 - u2 := IntWalk.i64_in _ (by omega)
  have hd2 : decide (s2 - u2 < n) = false := by simp; omega
  go_quiet (fail)
  go_wp2_with fail
  have hw2 : IntKind.i64.wrap (b2 + u2) = b2 + u2 := IntWalk.i64_in _ (by omega)
  refine wp_gen (fun W => Blk W w.heap.size [.int .i64 b0, .int .i64 b1, .int .i64 b2, .int .i64 b3, .int .i64 b4, .int .i64 b5, .int .i64 s0, .int .i64 s1, .int .i64 s2, .int .i64 s3, .int .i64 s4, .int .i64 s5, .int .i64 pc, .int .i64 ps, .int .i64 pl] ∧
    Blk W (w.heap.size + 1) [.int .i64 u0, .int .i64 u1, .int .i64 u2, .int .i64 u3, .int .i64 u4, .int .i64 u5] ∧ Blk W (w.heap.size + 1 + 1) [.int .i64 0, .int .i64 0, .int .i64 0, .int .i64 0, .int .i64 0, .int .i64 0] ∧ Keeps (· < w.heap.size) w W) ⟨?_, ?_, ?_, ?_⟩ ?_
  · repeat (first | with_reducible assumption | with_reducible exact Blk.new _ _ _ | with_reducible refine Blk.drew ?_ | with_reducible refine Blk.drewN ?_ _ | with_reducible refine Blk.set_ne ?_ _ ?_ | (with_reducible refine Blk.new' _ _ _ ?_; focus (simp; done)) | with_reducible refine Blk.alloc ?_ _)
    all_goals (first | assumption | (simp; done) | (simp; omega))
  · repeat (first | with_reducible assumption | with_reducible exact Blk.new _ _ _ | with_reducible refine Blk.drew ?_ | with_reducible refine Blk.drewN ?_ _ | with_reducible refine Blk.set_ne ?_ _ ?_ | (with_reducible refine Blk.new' _ _ _ ?_; focus (simp; done)) | with_reducible refine Blk.alloc ?_ _)
    all_goals (first | assumption | (simp; done) | (simp; omega))
  · repeat (first | with_reducible assumption | with_reducible exact Blk.new _ _ _ | with_reducible refine Blk.drew ?_ | with_reducible refine Blk.drewN ?_ _ | with_reducible refine Blk.set_ne ?_ _ ?_ | (with_reducible refine Blk.new' _ _ _ ?_; focus (simp; done)) | with_reducible refine Blk.alloc ?_ _)
    all_goals (first | assumption | (simp; done) | (simp; omega))
  · repeat (first | with_reducible assumption | with_reducible exact Keeps.refl _ _ | with_reducible refine Keeps.drew ?_ | with_reducible refine Keeps.drewN ?_ _ | with_reducible refine Keeps.setCell ?_ ?_ _ | with_reducible refine Keeps.alloc ?_ ?_ _)
    all_goals (first | (simp; done) | (simp; omega) | (intro b hb; first | exact hb | omega | (simp; omega) | (simp only [World.size_alloc]; omega)))
  rintro W ⟨hB0, hB1, hB2, hk⟩
  have c0 := hB0.cell
  have c1 := hB1.cell
  have f1 := hB1.free
  have f2 := hB2.free
  have c4 := hB0.cell 2
  have d4 := hB1.cell 2
  simp only [List.getElem?_cons_zero, List.getElem?_cons_succ] at c4 d4
  clear c0 c1
  go_quiet (fail)
  go_wp2_with fail
  clear c4 d4 f1 f2
  refine wp_gen (fun W' => Blk W' (w.heap.size + 1) [.int .i64 u0, .int .i64 u1, .int .i64 (u2 + n), .int .i64 u3, .int .i64 u4, .int .i64 u5] ∧ Blk W' (w.heap.size + 1 + 1) [.int .i64 0, .int .i64 0, .int .i64 0, .int .i64 0, .int .i64 0, .int .i64 0] ∧ Keeps (· < w.heap.size) w W') ⟨?_, ?_, ?_⟩ ?_
  · simpa using ((hB1.drewN nq).set 2 (.int .i64 (u2 + n)))
  · repeat (first | with_reducible assumption | with_reducible exact Blk.new _ _ _ | with_reducible refine Blk.drew ?_ | with_reducible refine Blk.drewN ?_ _ | with_reducible refine Blk.set_ne ?_ _ ?_ | (with_reducible refine Blk.new' _ _ _ ?_; focus (simp; done)) | with_reducible refine Blk.alloc ?_ _)
    all_goals (first | assumption | (simp; done) | (simp; omega))
  · repeat (first | with_reducible assumption | with_reducible exact Keeps.refl _ _ | with_reducible refine Keeps.drew ?_ | with_reducible refine Keeps.drewN ?_ _ | with_reducible refine Keeps.setCell ?_ ?_ _ | with_reducible refine Keeps.alloc ?_ ?_ _)
    all_goals (first | (simp; done) | (simp; omega) | (intro b hb; first | exact hb | omega | (simp; omega) | (simp only [World.size_alloc]; omega)))
  clear hB0 hB1 hB2 hk
  rintro W' ⟨hB1, hB2, hk⟩
  have c0 := (hB1).cell 0
  have c1 := (hB1).cell 1
  have c2 := (hB1).cell 2
  have c3 := (hB1).cell 3
  have c4 := (hB1).cell 4
  have c5 := (hB1).cell 5
  simp only [List.getElem?_cons_zero, List.getElem?_cons_succ] at c0 c1 c2 c3 c4 c5
  have d0 := (hB2).cell 0
  have d1 := (hB2).cell 1
  have d2 := (hB2).cell 2
  have d3 := (hB2).cell 3
  have d4 := (hB2).cell 4
  have d5 := (hB2).cell 5
  simp only [List.getElem?_cons_zero, List.getElem?_cons_succ] at d0 d1 d2 d3 d4 d5
  have f2 := hB2.free
  go_region
  go_wp2_with fail
  refine bp_gen (fun W => Blk W (w.heap.size + 1 + 1) [.int .i64 u0, .int .i64 u1, .int .i64 (u2 + n), .int .i64 u3, .int .i64 u4, .int .i64 u5] ∧ Keeps (· < w.heap.size) w W) ⟨?_, ?_⟩ ?_
  · exact ((((((hB2.set 0 _).set 1 _).set 2 _).set 3 _).set 4 _).set 5 _).drew
  · repeat (first | with_reducible assumption | with_reducible exact Keeps.refl _ _ | with_reducible refine Keeps.drew ?_ | with_reducible refine Keeps.drewN ?_ _ | with_reducible refine Keeps.setCell ?_ ?_ _ | with_reducible refine Keeps.alloc ?_ ?_ _)
    all_goals (first | (simp; done) | (simp; omega) | (intro b hb; first | exact hb | omega | (simp; omega) | (simp only [World.size_alloc]; omega)))
  clear hB1 hB2 hk c0 c1 c2 c3 c4 c5 d0 d1 d2 d3 d4 d5 f2
  rintro W2 ⟨hB2, hk⟩
  have d0 := (hB2).cell 0
  have d1 := (hB2).cell 1
  have d2 := (hB2).cell 2
  have d3 := (hB2).cell 3
  have d4 := (hB2).cell 4
  have d5 := (hB2).cell 5
  simp only [List.getElem?_cons_zero, List.getElem?_cons_succ] at d0 d1 d2 d3 d4 d5
  refine bodyPost_ret (v := .tuple #[.int .i64 (b2 + u2), .agg #[.int .i64 u0, .int .i64 u1, .int .i64 (u2 + n), .int .i64 u3, .int .i64 u4, .int .i64 u5], .int .i64 0]) ?_ rfl ?_
  · simp [results, Tryd.results61, go_sem, d0, d1, d2, d3, d4, d5]
  · exact hR'.out _ _ ⟨rfl, hk⟩

set_option maxRecDepth 100000 in
set_option maxHeartbeats 1000000 in
theorem take_no2 (p : PlanM) (u : V6) (n : Int) (w : World) (h1 : 1 ≤ n) (hn : n ≤ 1099511627776) (h0 : 0 ≤ u.a2) (hu : u.a2 ≤ p.size.a2) (h2 : p.size.a2 < u.a2 + n) (h3 : p.size.a2 ≤ 65536) :
    Calls Tryd.prog 61 #[p.val, u.val, .int .i64 2, .int .i64 n] w fun e w' =>
      e = .returned (.tuple #[.int .i64 0, V6.val ⟨0, 0, 0, 0, 0, 0⟩, .int .i64 3]) ∧ Keeps (· < w.heap.size) w w' := by
  obtain ⟨⟨b0, b1, b2, b3, b4, b5⟩, ⟨s0, s1, s2, s3, s4, s5⟩, pc, ps, pl⟩ := p
  obtain ⟨u0, u1, u2, u3, u4, u5⟩ := u
  simp only at h0 h2 h3 hu
  have hd1 : decide (n < 1) = false := by simpa using h1
  refine calls_hide fun R' hR' => ?_
  unfold PlanM.val V6.val
  go_enter Tryd.func61, Tryd.ntmps61
  go_wp2_with fail
  go_quiet ((go_at_call 63; exact Calls.quiet_of_same (between_yes _ _ _ _ (by omega))))
  go_wp2_with fail
  have hw1 : IntKind.i64.wrap (s2 - u2) = s2 - u2 := IntWalk.i64_in _ (by omega)
  have hd2 : decide (s2 - u2 < n) = true := by simp; omega
  go_quiet (fail)
  go_wp2_with fail
  refine bodyPost_ret (v := .tuple #[.int .i64 0, .agg #[.int .i64 0, .int .i64 0, .int .i64 0, .int .i64 0, .int .i64 0, .int .i64 0], .int .i64 3]) ?_ rfl ?_
  · simp [results, Tryd.results61, go_sem]
  · refine hR'.out _ _ ⟨rfl, ?_⟩
    repeat (first | with_reducible assumption | with_reducible exact Keeps.refl _ _ | with_reducible refine Keeps.drew ?_ | with_reducible refine Keeps.drewN ?_ _ | with_reducible refine Keeps.setCell ?_ ?_ _ | with_reducible refine Keeps.alloc ?_ ?_ _)
    all_goals (first | (simp; done) | (simp; omega) | (intro b hb; first | exact hb | omega | (simp; omega) | (simp only [World.size_alloc]; omega)))
set_option maxRecDepth 100000 in
set_option maxHeartbeats 1000000 in
theorem take_yes3 (p : PlanM) (u : V6) (n : Int) (w : World) (h1 : 1 ≤ n) (h0 : 0 ≤ u.a3) (h2 : u.a3 + n ≤ p.size.a3) (h3 : p.size.a3 ≤ 65536) (hb : 0 ≤ p.base.a3 ∧ p.base.a3 ≤ 65536) :
    Calls Tryd.prog 61 #[p.val, u.val, .int .i64 3, .int .i64 n] w fun e w' =>
      e = .returned (.tuple #[.int .i64 (p.base.a3 + u.a3), V6.val { u with a3 := u.a3 + n }, .int .i64 0]) ∧ Keeps (· < w.heap.size) w w' := by
  obtain ⟨⟨b0, b1, b2, b3, b4, b5⟩, ⟨s0, s1, s2, s3, s4, s5⟩, pc, ps, pl⟩ := p
  obtain ⟨u0, u1, u2, u3, u4, u5⟩ := u
  simp only at h0 h2 h3 hb
  obtain ⟨hb0, hb1⟩ := hb
  have hu4 : u3 ≤ s3 := by omega
  have hd1 : decide (n < 1) = false := by simpa using h1
  refine calls_hide fun R' hR' => ?_
  unfold PlanM.val V6.val
  go_enter Tryd.func61, Tryd.ntmps61
  go_wp2_with fail
  go_quiet ((go_at_call 63; exact Calls.quiet_of_same (between_yes _ _ _ _ (by omega))))
  go_wp2_with fail
  have hw1 : IntKind.i64.wrap (s3 - u3) = s3 - u3 := IntWalk.i64_in _ (by omega)
  have hd2 : decide (s3 - u3 < n) = false := by simp; omega
  go_quiet (fail)
  go_wp2_with fail
  have hw2 : IntKind.i64.wrap (b3 + u3) = b3 + u3 := IntWalk.i64_in _ (by omega)
  refine wp_gen (fun W => Blk W w.heap.size [.int .i64 b0, .int .i64 b1, .int .i64 b2, .int .i64 b3, .int .i64 b4, .int .i64 b5, .int .i64 s0, .int .i64 s1, .int .i64 s2, .int .i64 s3, .int .i64 s4, .int .i64 s5, .int .i64 pc, .int .i64 ps, .int .i64 pl] ∧
    Blk W (w.heap.size + 1) [.int .i64 u0, .int .i64 u1, .int .i64 u2, .int .i64 u3, .int .i64 u4, .int .i64 u5] ∧ Blk W (w.heap.size + 1 + 1) [.int .i64 0, .int .i64 0, .int .i64 0, .int .i64 0, .int .i64 0, .int .i64 0] ∧ Keeps (· < w.heap.size) w W) ⟨?_, ?_, ?_, ?_⟩ ?_
  · repeat (first | with_reducible assumption | with_reducible exact Blk.new _ _ _ | with_reducible refine Blk.drew ?_ | with_reducible refine Blk.drewN ?_ _ | with_reducible refine Blk.set_ne ?_ _ ?_ | (with_reducible refine Blk.new' _ _ _ ?_; focus (simp; done)) | with_reducible refine Blk.alloc ?_ _)
    all_goals (first | assumption | (simp; done) | (simp; omega))
  · repeat (first | with_reducible assumption | with_reducible exact Blk.new _ _ _ | with_reducible refine Blk.drew ?_ | with_reducible refine Blk.drewN ?_ _ | with_reducible refine Blk.set_ne ?_ _ ?_ | (with_reducible refine Blk.new' _ _ _ ?_; focus (simp; done)) | with_reducible refine Blk.alloc ?_ _)
    all_goals (first | assumption | (simp; done) | (simp; omega))
  · repeat (first | with_reducible assumption | with_reducible exact Blk.new _ _ _ | with_reducible refine Blk.drew ?_ | with_reducible refine Blk.drewN ?_ _ | with_reducible refine Blk.set_ne ?_ _ ?_ | (with_reducible refine Blk.new' _ _ _ ?_; focus (simp; done)) | with_reducible refine Blk.alloc ?_ _)
    all_goals (first | assumption | (simp; done) | (simp; omega))
  · repeat (first | with_reducible assumption | with_reducible exact Keeps.refl _ _ | with_reducible refine Keeps.drew ?_ | with_reducible refine Keeps.drewN ?_ _ | with_reducible refine Keeps.setCell ?_ ?_ _ | with_reducible refine Keeps.alloc ?_ ?_ _)
    all_goals (first | (simp; done) | (simp; omega) | (intro b hb; first | exact hb | omega | (simp; omega) | (simp only [World.size_alloc]; omega)))
  rintro W ⟨hB0, hB1, hB2, hk⟩
  have c0 := hB0.cell
  have c1 := hB1.cell
  have f1 := hB1.free
  have f2 := hB2.free
  have c4 := hB0.cell 3
  have d4 := hB1.cell 3
  simp only [List.getElem?_cons_zero, List.getElem?_cons_succ] at c4 d4
  clear c0 c1
  go_quiet (fail)
  go_wp2_with fail
  clear c4 d4 f1 f2
  refine wp_gen (fun W' => Blk W' (w.heap.size + 1) [.int .i64 u0, .int .i64 u1, .int .i64 u2, .int .i64 (u3 + n), .int .i64 u4, .int .i64 u5] ∧ Blk W' (w.heap.size + 1 + 1) [.int .i64 0, .int .i64 0, .int .i64 0, .int .i64 0, .int .i64 0, .int .i64 0] ∧ Keeps (· < w.heap.size) w W') ⟨?_, ?_, ?_⟩ ?_
  · simpa using ((hB1.drewN nq).set 3 (.int .i64 (u3 + n)))
  · repeat (first | with_reducible assumption | with_reducible exact Blk.new _ _ _ | with_reducible refine Blk.drew ?_ | with_reducible refine Blk.drewN ?_ _ | with_reducible refine Blk.set_ne ?_ _ ?_ | (with_reducible refine Blk.new' _ _ _ ?_; focus (simp; done)) | with_reducible refine Blk.alloc ?_ _)
    all_goals (first | assumption | (simp; done) | (simp; omega))
  · repeat (first | with_reducible assumption | with_reducible exact Keeps.refl _ _ | with_reducible refine Keeps.drew ?_ | with_reducible refine Keeps.drewN ?_ _ | with_reducible refine Keeps.setCell ?_ ?_ _ | with_reducible refine Keeps.alloc ?_ ?_ _)
    all_goals (first | (simp; done) | (simp; omega) | (intro b hb; first | exact hb | omega | (simp; omega) | (simp only [World.size_alloc]; omega)))
  clear hB0 hB1 hB2 hk
  rintro W' ⟨hB1, hB2, hk⟩
  have c0 := (hB1).cell 0
  have c1 := (hB1).cell 1
  have c2 := (hB1).cell 2
  have c3 := (hB1).cell 3
  have c4 := (hB1).cell 4
  have c5 := (hB1).cell 5
  simp only [List.getElem?_cons_zero, List.getElem?_cons_succ] at c0 c1 c2 c3 c4 c5
  have d0 := (hB2).cell 0
  have d1 := (hB2).cell 1
  have d2 := (hB2).cell 2
  have d3 := (hB2).cell 3
  have d4 := (hB2).cell 4
  have d5 := (hB2).cell 5
  simp only [List.getElem?_cons_zero, List.getElem?_cons_succ] at d0 d1 d2 d3 d4 d5
  have f2 := hB2.free
  go_region
  go_wp2_with fail
  refine bp_gen (fun W => Blk W (w.heap.size + 1 + 1) [.int .i64 u0, .int .i64 u1, .int .i64 u2, .int .i64 (u3 + n), .int .i64 u4, .int .i64 u5] ∧ Keeps (· < w.heap.size) w W) ⟨?_, ?_⟩ ?_
  · exact ((((((hB2.set 0 _).set 1 _).set 2 _).set 3 _).set 4 _).set 5 _).drew
  · repeat (first | with_reducible assumption | with_reducible exact Keeps.refl _ _ | with_reducible refine Keeps.drew ?_ | with_reducible refine Keeps.drewN ?_ _ | with_reducible refine Keeps.setCell ?_ ?_ _ | with_reducible refine Keeps.alloc ?_ ?_ _)
    all_goals (first | (simp; done) | (simp; omega) | (intro b hb; first | exact hb | omega | (simp; omega) | (simp only [World.size_alloc]; omega)))
  clear hB1 hB2 hk c0 c1 c2 c3 c4 c5 d0 d1 d2 d3 d4 d5 f2
  rintro W2 ⟨hB2, hk⟩
  have d0 := (hB2).cell 0
  have d1 := (hB2).cell 1
  have d2 := (hB2).cell 2
  have d3 := (hB2).cell 3
  have d4 := (hB2).cell 4
  have d5 := (hB2).cell 5
  simp only [List.getElem?_cons_zero, List.getElem?_cons_succ] at d0 d1 d2 d3 d4 d5
  refine bodyPost_ret (v := .tuple #[.int .i64 (b3 + u3), .agg #[.int .i64 u0, .int .i64 u1, .int .i64 u2, .int .i64 (u3 + n), .int .i64 u4, .int .i64 u5], .int .i64 0]) ?_ rfl ?_
  · simp [results, Tryd.results61, go_sem, d0, d1, d2, d3, d4, d5]
  · exact hR'.out _ _ ⟨rfl, hk⟩

set_option maxRecDepth 100000 in
set_option maxHeartbeats 1000000 in
theorem take_no3 (p : PlanM) (u : V6) (n : Int) (w : World) (h1 : 1 ≤ n) (hn : n ≤ 1099511627776) (h0 : 0 ≤ u.a3) (hu : u.a3 ≤ p.size.a3) (h2 : p.size.a3 < u.a3 + n) (h3 : p.size.a3 ≤ 65536) :
    Calls Tryd.prog 61 #[p.val, u.val, .int .i64 3, .int .i64 n] w fun e w' =>
      e = .returned (.tuple #[.int .i64 0, V6.val ⟨0, 0, 0, 0, 0, 0⟩, .int .i64 3]) ∧ Keeps (· < w.heap.size) w w' := by
  obtain ⟨⟨b0, b1, b2, b3, b4, b5⟩, ⟨s0, s1, s2, s3, s4, s5⟩, pc, ps, pl⟩ := p
  obtain ⟨u0, u1, u2, u3, u4, u5⟩ := u
  simp only at h0 h2 h3 hu
  have hd1 : decide (n < 1) = false := by simpa using h1
  refine calls_hide fun R' hR' => ?_
  unfold PlanM.val V6.val
  go_enter Tryd.func61, Tryd.ntmps61
  go_wp2_with fail
  go_quiet ((go_at_call 63; exact Calls.quiet_of_same (between_yes _ _ _ _ (by omega))))
  go_wp2_with fail
  have hw1 : IntKind.i64.wrap (s3 - u3) = s3 - u3 := IntWalk.i64_in _ (by omega)
  have hd2 : decide (s3 - u3 < n) = true := by simp; omega
  go_quiet (fail)
  go_wp2_with fail
  refine bodyPost_ret (v := .tuple #[.int .i64 0, .agg #[.int .i64 0, .int .i64 0, .int .i64 0, .int .i64 0, .int .i64 0, .int .i64 0], .int .i64 3]) ?_ rfl ?_
  · simp [results, Tryd.results61, go_sem]
  · refine hR'.out _ _ ⟨rfl, ?_⟩
    repeat (first | with_reducible assumption | with_reducible exact Keeps.refl _ _ | with_reducible refine Keeps.drew ?_ | with_reducible refine Keeps.drewN ?_ _ | with_reducible refine Keeps.setCell ?_ ?_ _ | with_reducible refine Keeps.alloc ?_ ?_ _)
    all_goals (first | (simp; done) | (simp; omega) | (intro b hb; first | exact hb | omega | (simp; omega) | (simp only [World.size_alloc]; omega)))

def V6.uK (u : V6) : Nat → Int
  | 0 => u.a0
  | 1 => u.a1
  | 2 => u.a2
  | _ => u.a3
def V6.up (u : V6) (k : Nat) (n : Int) : V6 :=
  match k with
  | 0 => { u with a0 := u.a0 + n }
  | 1 => { u with a1 := u.a1 + n }
  | 2 => { u with a2 := u.a2 + n }
  | _ => { u with a3 := u.a3 + n }
theorem take_yes (p : PlanM) (u : V6) (k : Nat) (hk : k ≤ 3) (n : Int) (w : World) (hp : p.Wf) (h1 : 1 ≤ n) (h0 : 0 ≤ u.uK k) (h2 : u.uK k + n ≤ p.sK k) :
    Calls Tryd.prog 61 #[p.val, u.val, .int .i64 (k : Int), .int .i64 n] w fun e w' =>
      e = .returned (.tuple #[.int .i64 (p.bK k + u.uK k), (u.up k n).val, .int .i64 0]) ∧ Keeps (· < w.heap.size) w w' := by
  have hs := (hp.s k).2
  have hb := hp.b k
  match k, hk with
  | 0, _ => exact take_yes0 p u n w h1 h0 h2 hs hb
  | 1, _ => exact take_yes1 p u n w h1 h0 h2 hs hb
  | 2, _ => exact take_yes2 p u n w h1 h0 h2 hs hb
  | 3, _ => exact take_yes3 p u n w h1 h0 h2 hs hb
theorem take_no (p : PlanM) (u : V6) (k : Nat) (hk : k ≤ 3) (n : Int) (w : World) (hp : p.Wf) (h1 : 1 ≤ n) (hn : n ≤ 1099511627776) (h0 : 0 ≤ u.uK k) (hu : u.uK k ≤ p.sK k) (h2 : p.sK k < u.uK k + n) :
    Calls Tryd.prog 61 #[p.val, u.val, .int .i64 (k : Int), .int .i64 n] w fun e w' =>
      e = .returned (.tuple #[.int .i64 0, V6.val ⟨0, 0, 0, 0, 0, 0⟩, .int .i64 3]) ∧ Keeps (· < w.heap.size) w w' := by
  have hs := (hp.s k).2
  match k, hk with
  | 0, _ => exact take_no0 p u n w h1 hn h0 hu h2 hs
  | 1, _ => exact take_no1 p u n w h1 hn h0 hu h2 hs
  | 2, _ => exact take_no2 p u n w h1 hn h0 hu h2 hs
  | 3, _ => exact take_no3 p u n w h1 hn h0 hu h2 hs
end Go.Proofs.YtbmgmjfpoepgpaaDoor
