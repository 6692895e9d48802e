/- Contracts of package pool: Take. -/
import Derived.Test.YtbmgmjfpoepgpaaDoorStepF
import Derived.Test.YtbmgmjfpoepgpaaDoorPackP
import Derived.Deep.QuietTactic
import Derived.BigQuiet
import Derived.StillTailTactics
import Derived.IntWalk
import Derived.RegionTactic
import Derived.ChangeAlike
namespace Go.Proofs.YtbmgmjfpoepgpaaDoor
open Go.RowKit

/-- six numbers -/
structure V6 where
  a0 : Int
  a1 : Int
  a2 : Int
  a3 : Int
  a4 : Int
  a5 : Int
def V6.val (v : V6) : Value := .agg #[.int .i64 v.a0, .int .i64 v.a1, .int .i64 v.a2, .int .i64 v.a3, .int .i64 v.a4, .int .i64 v.a5]
structure PlanM where
  base : V6
  size : V6
  cells : Int
  slots : Int
  live : Int
def PlanM.val (p : PlanM) : Value := .agg #[.int .i64 p.base.a0, .int .i64 p.base.a1, .int .i64 p.base.a2, .int .i64 p.base.a3, .int .i64 p.base.a4, .int .i64 p.base.a5,
  .int .i64 p.size.a0, .int .i64 p.size.a1, .int .i64 p.size.a2, .int .i64 p.size.a3, .int .i64 p.size.a4, .int .i64 p.size.a5, .int .i64 p.cells, .int .i64 p.slots, .int .i64 p.live]
def PlanM.flat (p : PlanM) : List Value := [.int .i64 p.base.a0, .int .i64 p.base.a1, .int .i64 p.base.a2, .int .i64 p.base.a3, .int .i64 p.base.a4, .int .i64 p.base.a5,
  .int .i64 p.size.a0, .int .i64 p.size.a1, .int .i64 p.size.a2, .int .i64 p.size.a3, .int .i64 p.size.a4, .int .i64 p.size.a5, .int .i64 p.cells, .int .i64 p.slots, .int .i64 p.live]

set_option maxHeartbeats 400000 in
theorem between_yes (n lo hi : Int) (w : World) (h : lo ≤ n ∧ n ≤ hi) :
    Calls Tryd.prog 63 #[.int .i64 n, .int .i64 lo, .int .i64 hi] w fun e w' => e = .returned (.bool true) ∧ w' = w := by
  obtain ⟨h1, h2⟩ := h
  refine calls_hide fun R' hR' => ?_
  go_enter Tryd.func63, Tryd.ntmps63
  go_wp2_with fail
  exact hR'.out _ _ ⟨rfl, rfl⟩

set_option maxRecDepth 100000 in
set_option maxHeartbeats 1000000 in
theorem take_book (p : PlanM) (u : V6) (n : Int) (w : World) (h1 : 1 ≤ n) (h0 : 0 ≤ u.a4) (h2 : u.a4 + n ≤ p.size.a4) (h3 : p.size.a4 ≤ 65536) (hb : 0 ≤ p.base.a4 ∧ p.base.a4 ≤ 65536) :
    Calls Tryd.prog 61 #[p.val, u.val, .int .i64 4, .int .i64 n] w fun e w' =>
      e = .returned (.tuple #[.int .i64 (p.base.a4 + u.a4), V6.val { u with a4 := u.a4 + n }, .int .i64 0]) ∧ Keeps (· < w.heap.size) w w' := by
  obtain ⟨⟨b0, b1, b2, b3, b4, b5⟩, ⟨s0, s1, s2, s3, s4, s5⟩, pc, ps, pl⟩ := p
  obtain ⟨u0, u1, u2, u3, u4, u5⟩ := u
  simp only at h0 h2 h3 hb
  obtain ⟨hb0, hb1⟩ := hb
  have hu4 : u4 ≤ s4 := by omega
  have hd1 : decide (n < 1) = false := by simpa using h1
  refine calls_hide fun R' hR' => ?_
  unfold PlanM.val V6.val
  go_enter Tryd.func61, Tryd.ntmps61
  go_wp2_with fail
  go_quiet ((go_at_call 63; exact Calls.quiet_of_same (between_yes _ _ _ _ (by omega))))
  go_wp2_with fail
  have hw1 : IntKind.i64.wrap (s4 - u4) = s4 - u4 := IntWalk.i64_in _ (by omega)
  have hd2 : decide (s4 - u4 < n) = false := by simp; omega
  go_quiet (fail)
  go_wp2_with fail
  have hw2 : IntKind.i64.wrap (b4 + u4) = b4 + u4 := IntWalk.i64_in _ (by omega)
  refine wp_gen (fun W => Blk W w.heap.size [.int .i64 b0, .int .i64 b1, .int .i64 b2, .int .i64 b3, .int .i64 b4, .int .i64 b5, .int .i64 s0, .int .i64 s1, .int .i64 s2, .int .i64 s3, .int .i64 s4, .int .i64 s5, .int .i64 pc, .int .i64 ps, .int .i64 pl] ∧
    Blk W (w.heap.size + 1) [.int .i64 u0, .int .i64 u1, .int .i64 u2, .int .i64 u3, .int .i64 u4, .int .i64 u5] ∧ Blk W (w.heap.size + 1 + 1) [.int .i64 0, .int .i64 0, .int .i64 0, .int .i64 0, .int .i64 0, .int .i64 0] ∧ Keeps (· < w.heap.size) w W) ⟨?_, ?_, ?_, ?_⟩ ?_
  · repeat (first | with_reducible assumption | with_reducible exact Blk.new _ _ _ | with_reducible refine Blk.drew ?_ | with_reducible refine Blk.drewN ?_ _ | with_reducible refine Blk.set_ne ?_ _ ?_ | (with_reducible refine Blk.new' _ _ _ ?_; focus (simp; done)) | with_reducible refine Blk.alloc ?_ _)
    all_goals (first | assumption | (simp; done) | (simp; omega))
  · repeat (first | with_reducible assumption | with_reducible exact Blk.new _ _ _ | with_reducible refine Blk.drew ?_ | with_reducible refine Blk.drewN ?_ _ | with_reducible refine Blk.set_ne ?_ _ ?_ | (with_reducible refine Blk.new' _ _ _ ?_; focus (simp; done)) | with_reducible refine Blk.alloc ?_ _)
    all_goals (first | assumption | (simp; done) | (simp; omega))
  · repeat (first | with_reducible assumption | with_reducible exact Blk.new _ _ _ | with_reducible refine Blk.drew ?_ | with_reducible refine Blk.drewN ?_ _ | with_reducible refine Blk.set_ne ?_ _ ?_ | (with_reducible refine Blk.new' _ _ _ ?_; focus (simp; done)) | with_reducible refine Blk.alloc ?_ _)
    all_goals (first | assumption | (simp; done) | (simp; omega))
  · repeat (first | with_reducible assumption | with_reducible exact Keeps.refl _ _ | with_reducible refine Keeps.drew ?_ | with_reducible refine Keeps.drewN ?_ _ | with_reducible refine Keeps.setCell ?_ ?_ _ | with_reducible refine Keeps.alloc ?_ ?_ _)
    all_goals (first | (simp; done) | (simp; omega) | (intro b hb; first | exact hb | omega | (simp; omega) | (simp only [World.size_alloc]; omega)))
  rintro W ⟨hB0, hB1, hB2, hk⟩
  have c0 := hB0.cell
  have c1 := hB1.cell
  have f1 := hB1.free
  have f2 := hB2.free
  have c4 := hB0.cell 4
  have d4 := hB1.cell 4
  simp only [List.getElem?_cons_zero, List.getElem?_cons_succ] at c4 d4
  clear c0 c1
  go_quiet (fail)
  go_wp2_with fail
  clear c4 d4 f1 f2
  refine wp_gen (fun W' => Blk W' (w.heap.size + 1) [.int .i64 u0, .int .i64 u1, .int .i64 u2, .int .i64 u3, .int .i64 (u4 + n), .int .i64 u5] ∧ Blk W' (w.heap.size + 1 + 1) [.int .i64 0, .int .i64 0, .int .i64 0, .int .i64 0, .int .i64 0, .int .i64 0] ∧ Keeps (· < w.heap.size) w W') ⟨?_, ?_, ?_⟩ ?_
  · simpa using ((hB1.drewN nq).set 4 (.int .i64 (u4 + n)))
  · repeat (first | with_reducible assumption | with_reducible exact Blk.new _ _ _ | with_reducible refine Blk.drew ?_ | with_reducible refine Blk.drewN ?_ _ | with_reducible refine Blk.set_ne ?_ _ ?_ | (with_reducible refine Blk.new' _ _ _ ?_; focus (simp; done)) | with_reducible refine Blk.alloc ?_ _)
    all_goals (first | assumption | (simp; done) | (simp; omega))
  · repeat (first | with_reducible assumption | with_reducible exact Keeps.refl _ _ | with_reducible refine Keeps.drew ?_ | with_reducible refine Keeps.drewN ?_ _ | with_reducible refine Keeps.setCell ?_ ?_ _ | with_reducible refine Keeps.alloc ?_ ?_ _)
    all_goals (first | (simp; done) | (simp; omega) | (intro b hb; first | exact hb | omega | (simp; omega) | (simp only [World.size_alloc]; omega)))
  clear hB0 hB1 hB2 hk
  rintro W' ⟨hB1, hB2, hk⟩
  have c0 := (hB1).cell 0
  have c1 := (hB1).cell 1
  have c2 := (hB1).cell 2
  have c3 := (hB1).cell 3
  have c4 := (hB1).cell 4
  have c5 := (hB1).cell 5
  simp only [List.getElem?_cons_zero, List.getElem?_cons_succ] at c0 c1 c2 c3 c4 c5
  have d0 := (hB2).cell 0
  have d1 := (hB2).cell 1
  have d2 := (hB2).cell 2
  have d3 := (hB2).cell 3
  have d4 := (hB2).cell 4
  have d5 := (hB2).cell 5
  simp only [List.getElem?_cons_zero, List.getElem?_cons_succ] at d0 d1 d2 d3 d4 d5
  have f2 := hB2.free
  go_region
  go_wp2_with fail
  refine bp_gen (fun W => Blk W (w.heap.size + 1 + 1) [.int .i64 u0, .int .i64 u1, .int .i64 u2, .int .i64 u3, .int .i64 (u4 + n), .int .i64 u5] ∧ Keeps (· < w.heap.size) w W) ⟨?_, ?_⟩ ?_
  · exact ((((((hB2.set 0 _).set 1 _).set 2 _).set 3 _).set 4 _).set 5 _).drew
  · repeat (first | with_reducible assumption | with_reducible exact Keeps.refl _ _ | with_reducible refine Keeps.drew ?_ | with_reducible refine Keeps.drewN ?_ _ | with_reducible refine Keeps.setCell ?_ ?_ _ | with_reducible refine Keeps.alloc ?_ ?_ _)
    all_goals (first | (simp; done) | (simp; omega) | (intro b hb; first | exact hb | omega | (simp; omega) | (simp only [World.size_alloc]; omega)))
  clear hB1 hB2 hk c0 c1 c2 c3 c4 c5 d0 d1 d2 d3 d4 d5 f2
  rintro W2 ⟨hB2, hk⟩
  have d0 := (hB2).cell 0
  have d1 := (hB2).cell 1
  have d2 := (hB2).cell 2
  have d3 := (hB2).cell 3
  have d4 := (hB2).cell 4
  have d5 := (hB2).cell 5
  simp only [List.getElem?_cons_zero, List.getElem?_cons_succ] at d0 d1 d2 d3 d4 d5
  refine bodyPost_ret (v := .tuple #[.int .i64 (b4 + u4), .agg #[.int .i64 u0, .int .i64 u1, .int .i64 u2, .int .i64 u3, .int .i64 (u4 + n), .int .i64 u5], .int .i64 0]) ?_ rfl ?_
  · simp [results, Tryd.results61, go_sem, d0, d1, d2, d3, d4, d5]
  · exact hR'.out _ _ ⟨rfl, hk⟩

set_option maxRecDepth 100000 in
set_option maxHeartbeats 1000000 in
theorem take_full (p : PlanM) (u : V6) (n : Int) (w : World) (h1 : 1 ≤ n) (hn : n ≤ 1099511627776) (h0 : 0 ≤ u.a4) (hu : u.a4 ≤ p.size.a4) (h2 : p.size.a4 < u.a4 + n) (h3 : p.size.a4 ≤ 65536) :
    Calls Tryd.prog 61 #[p.val, u.val, .int .i64 4, .int .i64 n] w fun e w' =>
      e = .returned (.tuple #[.int .i64 0, V6.val ⟨0, 0, 0, 0, 0, 0⟩, .int .i64 3]) ∧ Keeps (· < w.heap.size) w w' := by
  obtain ⟨⟨b0, b1, b2, b3, b4, b5⟩, ⟨s0, s1, s2, s3, s4, s5⟩, pc, ps, pl⟩ := p
  obtain ⟨u0, u1, u2, u3, u4, u5⟩ := u
  simp only at h0 h2 h3 hu
  have hd1 : decide (n < 1) = false := by simpa using h1
  refine calls_hide fun R' hR' => ?_
  unfold PlanM.val V6.val
  go_enter Tryd.func61, Tryd.ntmps61
  go_wp2_with fail
  go_quiet ((go_at_call 63; exact Calls.quiet_of_same (between_yes _ _ _ _ (by omega))))
  go_wp2_with fail
  have hw1 : IntKind.i64.wrap (s4 - u4) = s4 - u4 := IntWalk.i64_in _ (by omega)
  have hd2 : decide (s4 - u4 < n) = true := by simp; omega
  go_quiet (fail)
  go_wp2_with fail
  refine bodyPost_ret (v := .tuple #[.int .i64 0, .agg #[.int .i64 0, .int .i64 0, .int .i64 0, .int .i64 0, .int .i64 0, .int .i64 0], .int .i64 3]) ?_ rfl ?_
  · simp [results, Tryd.results61, go_sem]
  · refine hR'.out _ _ ⟨rfl, ?_⟩
    repeat (first | with_reducible assumption | with_reducible exact Keeps.refl _ _ | with_reducible refine Keeps.drew ?_ | with_reducible refine Keeps.drewN ?_ _ | with_reducible refine Keeps.setCell ?_ ?_ _ | with_reducible refine Keeps.alloc ?_ ?_ _)
    all_goals (first | (simp; done) | (simp; omega) | (intro b hb; first | exact hb | omega | (simp; omega) | (simp only [World.size_alloc]; omega)))
end Go.Proofs.YtbmgmjfpoepgpaaDoor
