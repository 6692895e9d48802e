/- The second reference: Sizes of a configuration that may not be. Printed by gen/layg.py. -/
import Derived.Test.YtbmgmjfpoepgpaaDoorLayB
import Derived.Deep.CutRange
namespace Go.Proofs.YtbmgmjfpoepgpaaDoor
open Go.RowKit

set_option maxRecDepth 100000 in
set_option maxHeartbeats 2000000 in
theorem sizes_bad0 (c : ConfM) (d0 : 1 ≤ c.docs) (d1 : c.docs ≤ 64) (t0 : 64 ≤ c.terms) (t1 : c.terms ≤ 256) (k0 : 0 ≤ c.book) (k1 : c.book ≤ 65536) (r0 : 0 ≤ c.room) (r1 : c.room ≤ 65536) (hs : True) (hbad : c.s0 < 0 ∨ c.s0 > 512) (w : World) :
    Calls Tryd.prog 60 #[.agg c.list.toArray] w fun e w' => ∃ u : V6, e = .returned (.tuple #[u.val, .bool false]) ∧ Keeps (· < w.heap.size) w w' := by
  obtain ⟨docs, terms, s0, s1, s2, s3, book, room, kk, bb⟩ := c
  simp only at d0 d1 t0 t1 k0 k1 r0 r1 hs hbad
  refine calls_hide fun R' hR' => ?_
  unfold ConfM.list
  go_enter Tryd.func60, Tryd.ntmps60
  go_wp2_with fail
  refine wp_gen (fun W => Blk W w.heap.size [.int .i64 docs, .int .i64 terms, .int .i64 s0, .int .i64 s1, .int .i64 s2, .int .i64 s3, .int .i64 book, .int .i64 room, kk, bb] ∧ Blk W (w.heap.size + 1) [.int .i64 0, .int .i64 0, .int .i64 0, .int .i64 0, .int .i64 0, .int .i64 0] ∧
    Blk W (w.heap.size + 1 + 1) [.int .i64 0, .int .i64 0, .int .i64 0, .int .i64 0, .int .i64 0, .int .i64 0] ∧ Keeps (· < w.heap.size) w W) ⟨?_, ?_, ?_, ?_⟩ ?_
  · repeat (first | with_reducible assumption | with_reducible exact Blk.new _ _ _ | with_reducible refine Blk.drew ?_ | with_reducible refine Blk.drewN ?_ _ | with_reducible refine Blk.set_ne ?_ _ ?_ | (with_reducible refine Blk.new' _ _ _ ?_; focus (simp; done)) | with_reducible refine Blk.alloc ?_ _)
    all_goals (first | assumption | (simp; done) | (simp; omega))
  · repeat (first | with_reducible assumption | with_reducible exact Blk.new _ _ _ | with_reducible refine Blk.drew ?_ | with_reducible refine Blk.drewN ?_ _ | with_reducible refine Blk.set_ne ?_ _ ?_ | (with_reducible refine Blk.new' _ _ _ ?_; focus (simp; done)) | with_reducible refine Blk.alloc ?_ _)
    all_goals (first | assumption | (simp; done) | (simp; omega))
  · repeat (first | with_reducible assumption | with_reducible exact Blk.new _ _ _ | with_reducible refine Blk.drew ?_ | with_reducible refine Blk.drewN ?_ _ | with_reducible refine BlkN.set1 ?_ _ | with_reducible refine BlkN.set6 ?_ _ _ _ _ _ _ | with_reducible exact BlkN.of1 (by with_reducible assumption) | with_reducible exact BlkN.of6 (by with_reducible assumption) | with_reducible refine BlkN.drew ?_ | with_reducible refine BlkN.drewN ?_ _ | with_reducible refine BlkN.set_ne ?_ _ ?_ | with_reducible refine BlkN.alloc ?_ _ | with_reducible refine Blk.set_ne ?_ _ ?_ | (with_reducible refine Blk.new' _ _ _ ?_; focus (simp; done)) | with_reducible refine Blk.alloc ?_ _)
    all_goals (first | assumption | (simp; done) | (simp; omega))
  · repeat (first | with_reducible assumption | with_reducible exact Keeps.refl _ _ | with_reducible refine Keeps.drew ?_ | with_reducible refine Keeps.drewN ?_ _ | with_reducible refine Keeps.setCell ?_ ?_ _ | with_reducible refine Keeps.alloc ?_ ?_ _)
    all_goals (first | (simp; done) | (simp; omega) | (intro b hb; first | exact hb | omega | (simp; omega) | (simp only [World.size_alloc]; omega)))
  rintro W ⟨hB0, hB1, hB2, hk⟩
  generalize hb : w.heap.size = b at *
  have Hb := hid hb
  clear hb
  go_loopw [5, 6] (fun all kv wr => ∃ k : Nat, k ≤ 0 ∧ kv = .int .i64 k ∧ all = .int .i64 (baseC ⟨docs, terms, s0, s1, s2, s3, book, room, kk, bb⟩ k) ∧ Blk wr b [.int .i64 docs, .int .i64 terms, .int .i64 s0, .int .i64 s1, .int .i64 s2, .int .i64 s3, .int .i64 book, .int .i64 room, kk, bb] ∧
    Blk wr (b + 1) [.int .i64 0, .int .i64 0, .int .i64 0, .int .i64 0, .int .i64 0, .int .i64 0] ∧ Blk wr (b + 1 + 1) (six (upto k (szC ⟨docs, terms, s0, s1, s2, s3, book, room, kk, bb⟩))) ∧ Keeps (· < b) w wr) (fun _ kv _ => 6 - (intOf kv).toNat)
  case atStart => exact ⟨0, by omega, rfl, rfl, hB0, hB1, hB2, hk⟩
  case round =>
    obtain ⟨k, hk6, rfl, rfl, hC0, hC1, hC2, hkr⟩ := hrel
    clear hB0 hB1 hB2 hk
    have c0 := (hC0).cell 0
    have c1 := (hC0).cell 1
    have c2 := (hC0).cell 2
    have c3 := (hC0).cell 3
    have c4 := (hC0).cell 4
    have c5 := (hC0).cell 5
    have c6 := (hC0).cell 6
    have c7 := (hC0).cell 7
    have c8 := (hC0).cell 8
    have c9 := (hC0).cell 9
    simp only [List.getElem?_cons_zero, List.getElem?_cons_succ] at c0 c1 c2 c3 c4 c5 c6 c7 c8 c9
    obtain rfl : k = 0 := by omega
    rcases (rfl : (0:Nat) = 0) with _
    · skip
      simp only [baseC, szC, six, upto, Nat.lt_irrefl, Nat.not_lt_zero, if_true, if_false, Nat.zero_lt_succ, Nat.reduceLT] at *
      have z0 := (hC2).cell 0
      have z1 := (hC2).cell 1
      have z2 := (hC2).cell 2
      have z3 := (hC2).cell 3
      have z4 := (hC2).cell 4
      have z5 := (hC2).cell 5
      simp only [List.getElem?_cons_zero, List.getElem?_cons_succ] at z0 z1 z2 z3 z4 z5
      have d0 := (hC1).cell 0
      have d1 := (hC1).cell 1
      have d2 := (hC1).cell 2
      have d3 := (hC1).cell 3
      have d4 := (hC1).cell 4
      have d5 := (hC1).cell 5
      simp only [List.getElem?_cons_zero, List.getElem?_cons_succ] at d0 d1 d2 d3 d4 d5
      have f1 := hC1.free
      rcases hbad with hb1 | hb1
      · have g1 : decide (s0 < 0) = true := decide_eq_true hb1
        go_wp2_with fail
        refine bp_gen (fun W => Blk W (b + 1) [.int .i64 0, .int .i64 0, .int .i64 0, .int .i64 0, .int .i64 0, .int .i64 0] ∧ Keeps (· < b) w W) ⟨?_, ?_⟩ ?_
        · first | with_reducible exact Blk.set6 hC1 _ _ _ _ _ _ (by simp) | with_reducible exact (Blk.set6 hC1 _ _ _ _ _ _ (by simp)).drew
        · repeat (first | with_reducible assumption | with_reducible exact Keeps.refl _ _ | with_reducible refine Keeps.drew ?_ | with_reducible refine Keeps.drewN ?_ _ | with_reducible refine Keeps.setCell ?_ ?_ _ | with_reducible refine Keeps.alloc ?_ ?_ _)
          all_goals (first | (simp; done) | (simp; omega) | (intro b hb; first | exact hb | omega | (simp; omega) | (simp only [World.size_alloc]; omega)))
        clear z0 z1 z2 z3 z4 z5 d0 d1 d2 d3 d4 d5 f1 hC0 hC1 hC2 hkr
        rintro W2 ⟨g1, g2⟩
        have d0 := (g1).cell 0
        have d1 := (g1).cell 1
        have d2 := (g1).cell 2
        have d3 := (g1).cell 3
        have d4 := (g1).cell 4
        have d5 := (g1).cell 5
        simp only [List.getElem?_cons_zero, List.getElem?_cons_succ] at d0 d1 d2 d3 d4 d5
        refine bodyPost_ret (v := .tuple #[.agg #[.int .i64 0, .int .i64 0, .int .i64 0, .int .i64 0, .int .i64 0, .int .i64 0], .bool false]) ?_ rfl ?_
        · simp [results, Tryd.results60, go_sem, d0, d1, d2, d3, d4, d5]
        · exact hR'.out _ _ ⟨⟨0, 0, 0, 0, 0, 0⟩, rfl, g2⟩
      · have g1 : decide (s0 < 0) = false := decide_eq_false (by omega)
        have g2 : decide (s0 > 512) = true := decide_eq_true hb1
        go_wp2_with fail
        refine bp_gen (fun W => Blk W (b + 1) [.int .i64 0, .int .i64 0, .int .i64 0, .int .i64 0, .int .i64 0, .int .i64 0] ∧ Keeps (· < b) w W) ⟨?_, ?_⟩ ?_
        · first | with_reducible exact Blk.set6 hC1 _ _ _ _ _ _ (by simp) | with_reducible exact (Blk.set6 hC1 _ _ _ _ _ _ (by simp)).drew
        · repeat (first | with_reducible assumption | with_reducible exact Keeps.refl _ _ | with_reducible refine Keeps.drew ?_ | with_reducible refine Keeps.drewN ?_ _ | with_reducible refine Keeps.setCell ?_ ?_ _ | with_reducible refine Keeps.alloc ?_ ?_ _)
          all_goals (first | (simp; done) | (simp; omega) | (intro b hb; first | exact hb | omega | (simp; omega) | (simp only [World.size_alloc]; omega)))
        clear z0 z1 z2 z3 z4 z5 d0 d1 d2 d3 d4 d5 f1 hC0 hC1 hC2 hkr
        rintro W2 ⟨g1, g2⟩
        have d0 := (g1).cell 0
        have d1 := (g1).cell 1
        have d2 := (g1).cell 2
        have d3 := (g1).cell 3
        have d4 := (g1).cell 4
        have d5 := (g1).cell 5
        simp only [List.getElem?_cons_zero, List.getElem?_cons_succ] at d0 d1 d2 d3 d4 d5
        refine bodyPost_ret (v := .tuple #[.agg #[.int .i64 0, .int .i64 0, .int .i64 0, .int .i64 0, .int .i64 0, .int .i64 0], .bool false]) ?_ rfl ?_
        · simp [results, Tryd.results60, go_sem, d0, d1, d2, d3, d4, d5]
        · exact hR'.out _ _ ⟨⟨0, 0, 0, 0, 0, 0⟩, rfl, g2⟩

set_option maxRecDepth 100000 in
set_option maxHeartbeats 2000000 in
theorem sizes_bad1 (c : ConfM) (d0 : 1 ≤ c.docs) (d1 : c.docs ≤ 64) (t0 : 64 ≤ c.terms) (t1 : c.terms ≤ 256) (k0 : 0 ≤ c.book) (k1 : c.book ≤ 65536) (r0 : 0 ≤ c.room) (r1 : c.room ≤ 65536) (hs : (0 ≤ c.s0 ∧ c.s0 ≤ 512)) (hbad : c.s1 < 0 ∨ c.s1 > 512) (w : World) :
    Calls Tryd.prog 60 #[.agg c.list.toArray] w fun e w' => ∃ u : V6, e = .returned (.tuple #[u.val, .bool false]) ∧ Keeps (· < w.heap.size) w w' := by
  obtain ⟨docs, terms, s0, s1, s2, s3, book, room, kk, bb⟩ := c
  simp only at d0 d1 t0 t1 k0 k1 r0 r1 hs hbad
  obtain ⟨ha0, hb0⟩ := hs
  refine calls_hide fun R' hR' => ?_
  unfold ConfM.list
  go_enter Tryd.func60, Tryd.ntmps60
  go_wp2_with fail
  refine wp_gen (fun W => Blk W w.heap.size [.int .i64 docs, .int .i64 terms, .int .i64 s0, .int .i64 s1, .int .i64 s2, .int .i64 s3, .int .i64 book, .int .i64 room, kk, bb] ∧ Blk W (w.heap.size + 1) [.int .i64 0, .int .i64 0, .int .i64 0, .int .i64 0, .int .i64 0, .int .i64 0] ∧
    Blk W (w.heap.size + 1 + 1) [.int .i64 0, .int .i64 0, .int .i64 0, .int .i64 0, .int .i64 0, .int .i64 0] ∧ Keeps (· < w.heap.size) w W) ⟨?_, ?_, ?_, ?_⟩ ?_
  · repeat (first | with_reducible assumption | with_reducible exact Blk.new _ _ _ | with_reducible refine Blk.drew ?_ | with_reducible refine Blk.drewN ?_ _ | with_reducible refine Blk.set_ne ?_ _ ?_ | (with_reducible refine Blk.new' _ _ _ ?_; focus (simp; done)) | with_reducible refine Blk.alloc ?_ _)
    all_goals (first | assumption | (simp; done) | (simp; omega))
  · repeat (first | with_reducible assumption | with_reducible exact Blk.new _ _ _ | with_reducible refine Blk.drew ?_ | with_reducible refine Blk.drewN ?_ _ | with_reducible refine Blk.set_ne ?_ _ ?_ | (with_reducible refine Blk.new' _ _ _ ?_; focus (simp; done)) | with_reducible refine Blk.alloc ?_ _)
    all_goals (first | assumption | (simp; done) | (simp; omega))
  · repeat (first | with_reducible assumption | with_reducible exact Blk.new _ _ _ | with_reducible refine Blk.drew ?_ | with_reducible refine Blk.drewN ?_ _ | with_reducible refine BlkN.set1 ?_ _ | with_reducible refine BlkN.set6 ?_ _ _ _ _ _ _ | with_reducible exact BlkN.of1 (by with_reducible assumption) | with_reducible exact BlkN.of6 (by with_reducible assumption) | with_reducible refine BlkN.drew ?_ | with_reducible refine BlkN.drewN ?_ _ | with_reducible refine BlkN.set_ne ?_ _ ?_ | with_reducible refine BlkN.alloc ?_ _ | with_reducible refine Blk.set_ne ?_ _ ?_ | (with_reducible refine Blk.new' _ _ _ ?_; focus (simp; done)) | with_reducible refine Blk.alloc ?_ _)
    all_goals (first | assumption | (simp; done) | (simp; omega))
  · repeat (first | with_reducible assumption | with_reducible exact Keeps.refl _ _ | with_reducible refine Keeps.drew ?_ | with_reducible refine Keeps.drewN ?_ _ | with_reducible refine Keeps.setCell ?_ ?_ _ | with_reducible refine Keeps.alloc ?_ ?_ _)
    all_goals (first | (simp; done) | (simp; omega) | (intro b hb; first | exact hb | omega | (simp; omega) | (simp only [World.size_alloc]; omega)))
  rintro W ⟨hB0, hB1, hB2, hk⟩
  generalize hb : w.heap.size = b at *
  have Hb := hid hb
  clear hb
  go_loopw [5, 6] (fun all kv wr => ∃ k : Nat, k ≤ 1 ∧ kv = .int .i64 k ∧ all = .int .i64 (baseC ⟨docs, terms, s0, s1, s2, s3, book, room, kk, bb⟩ k) ∧ Blk wr b [.int .i64 docs, .int .i64 terms, .int .i64 s0, .int .i64 s1, .int .i64 s2, .int .i64 s3, .int .i64 book, .int .i64 room, kk, bb] ∧
    Blk wr (b + 1) [.int .i64 0, .int .i64 0, .int .i64 0, .int .i64 0, .int .i64 0, .int .i64 0] ∧ Blk wr (b + 1 + 1) (six (upto k (szC ⟨docs, terms, s0, s1, s2, s3, book, room, kk, bb⟩))) ∧ Keeps (· < b) w wr) (fun _ kv _ => 6 - (intOf kv).toNat)
  case atStart => exact ⟨0, by omega, rfl, rfl, hB0, hB1, hB2, hk⟩
  case round =>
    obtain ⟨k, hk6, rfl, rfl, hC0, hC1, hC2, hkr⟩ := hrel
    clear hB0 hB1 hB2 hk
    have c0 := (hC0).cell 0
    have c1 := (hC0).cell 1
    have c2 := (hC0).cell 2
    have c3 := (hC0).cell 3
    have c4 := (hC0).cell 4
    have c5 := (hC0).cell 5
    have c6 := (hC0).cell 6
    have c7 := (hC0).cell 7
    have c8 := (hC0).cell 8
    have c9 := (hC0).cell 9
    simp only [List.getElem?_cons_zero, List.getElem?_cons_succ] at c0 c1 c2 c3 c4 c5 c6 c7 c8 c9
    rcases (by omega : k = 0 ∨ k = 1) with rfl | rfl
    · simp only [baseC, szC, six, upto, Nat.lt_irrefl, Nat.not_lt_zero, if_true, if_false, Nat.zero_lt_succ, Nat.reduceLT] at *
      have z0 := (hC2).cell 0
      have z1 := (hC2).cell 1
      have z2 := (hC2).cell 2
      have z3 := (hC2).cell 3
      have z4 := (hC2).cell 4
      have z5 := (hC2).cell 5
      simp only [List.getElem?_cons_zero, List.getElem?_cons_succ] at z0 z1 z2 z3 z4 z5
      have f2 := hC2.free
      go_wp2_with fail
      refine wp_region_still_tail 9 (by kernel_rfl) (by kernel_rfl) ?_
      simp only [List.take_succ_cons, List.take_zero, List.drop_succ_cons, List.drop_zero]
      have hw1 : IntKind.i64.wrap (s0 * 4) = s0 * 4 := IntWalk.i64_in _ (by omega)
      repeat (first | still_step | still_call (slab_at0 _))
      refine wpStill_nil ?_
      change wpList _ _ _ _ _ wr.drew
      go_wp2_with fail
      go_roundw
      case rel =>
        refine ⟨1, by omega, rfl, congrArg (Value.int .i64) (by simp only [baseC, szC] <;> omega), ?_, ?_, ?_, ?_⟩
        · repeat (first | with_reducible assumption | with_reducible exact Blk.new _ _ _ | with_reducible refine Blk.drew ?_ | with_reducible refine Blk.drewN ?_ _ | with_reducible refine Blk.set_ne ?_ _ ?_ | (with_reducible refine Blk.new' _ _ _ ?_; focus (simp; done)) | with_reducible refine Blk.alloc ?_ _)
          all_goals (first | assumption | (simp; done) | (simp; omega))
        · repeat (first | with_reducible assumption | with_reducible exact Blk.new _ _ _ | with_reducible refine Blk.drew ?_ | with_reducible refine Blk.drewN ?_ _ | with_reducible refine Blk.set_ne ?_ _ ?_ | (with_reducible refine Blk.new' _ _ _ ?_; focus (simp; done)) | with_reducible refine Blk.alloc ?_ _)
          all_goals (first | assumption | (simp; done) | (simp; omega))
        · have hx := hC2.set 0 (.int .i64 (s0 * 4))
          first
            | (refine Blk.drew ?_; simpa [six, upto, szC, Int.mul_comm] using hx)
            | simpa [six, upto, szC, Int.mul_comm] using hx
        · repeat (first | with_reducible assumption | with_reducible exact Keeps.refl _ _ | with_reducible refine Keeps.drew ?_ | with_reducible refine Keeps.drewN ?_ _ | with_reducible refine Keeps.setCell ?_ ?_ _ | with_reducible refine Keeps.alloc ?_ ?_ _)
          all_goals (first | (simp; done) | (simp; omega) | (intro b hb; first | exact hb | omega | (simp; omega) | (simp only [World.size_alloc]; omega)))
      case measure => simp [intOf]
    · skip
      simp only [baseC, szC, six, upto, Nat.lt_irrefl, Nat.not_lt_zero, if_true, if_false, Nat.zero_lt_succ, Nat.reduceLT] at *
      have z0 := (hC2).cell 0
      have z1 := (hC2).cell 1
      have z2 := (hC2).cell 2
      have z3 := (hC2).cell 3
      have z4 := (hC2).cell 4
      have z5 := (hC2).cell 5
      simp only [List.getElem?_cons_zero, List.getElem?_cons_succ] at z0 z1 z2 z3 z4 z5
      have d0 := (hC1).cell 0
      have d1 := (hC1).cell 1
      have d2 := (hC1).cell 2
      have d3 := (hC1).cell 3
      have d4 := (hC1).cell 4
      have d5 := (hC1).cell 5
      simp only [List.getElem?_cons_zero, List.getElem?_cons_succ] at d0 d1 d2 d3 d4 d5
      have f1 := hC1.free
      rcases hbad with hb1 | hb1
      · have g1 : decide (s1 < 0) = true := decide_eq_true hb1
        go_wp2_with fail
        refine bp_gen (fun W => Blk W (b + 1) [.int .i64 (4 * s0), .int .i64 0, .int .i64 0, .int .i64 0, .int .i64 0, .int .i64 0] ∧ Keeps (· < b) w W) ⟨?_, ?_⟩ ?_
        · first | with_reducible exact Blk.set6 hC1 _ _ _ _ _ _ (by simp) | with_reducible exact (Blk.set6 hC1 _ _ _ _ _ _ (by simp)).drew
        · repeat (first | with_reducible assumption | with_reducible exact Keeps.refl _ _ | with_reducible refine Keeps.drew ?_ | with_reducible refine Keeps.drewN ?_ _ | with_reducible refine Keeps.setCell ?_ ?_ _ | with_reducible refine Keeps.alloc ?_ ?_ _)
          all_goals (first | (simp; done) | (simp; omega) | (intro b hb; first | exact hb | omega | (simp; omega) | (simp only [World.size_alloc]; omega)))
        clear z0 z1 z2 z3 z4 z5 d0 d1 d2 d3 d4 d5 f1 hC0 hC1 hC2 hkr
        rintro W2 ⟨g1, g2⟩
        have d0 := (g1).cell 0
        have d1 := (g1).cell 1
        have d2 := (g1).cell 2
        have d3 := (g1).cell 3
        have d4 := (g1).cell 4
        have d5 := (g1).cell 5
        simp only [List.getElem?_cons_zero, List.getElem?_cons_succ] at d0 d1 d2 d3 d4 d5
        refine bodyPost_ret (v := .tuple #[.agg #[.int .i64 (4 * s0), .int .i64 0, .int .i64 0, .int .i64 0, .int .i64 0, .int .i64 0], .bool false]) ?_ rfl ?_
        · simp [results, Tryd.results60, go_sem, d0, d1, d2, d3, d4, d5]
        · exact hR'.out _ _ ⟨⟨4 * s0, 0, 0, 0, 0, 0⟩, rfl, g2⟩
      · have g1 : decide (s1 < 0) = false := decide_eq_false (by omega)
        have g2 : decide (s1 > 512) = true := decide_eq_true hb1
        go_wp2_with fail
        refine bp_gen (fun W => Blk W (b + 1) [.int .i64 (4 * s0), .int .i64 0, .int .i64 0, .int .i64 0, .int .i64 0, .int .i64 0] ∧ Keeps (· < b) w W) ⟨?_, ?_⟩ ?_
        · first | with_reducible exact Blk.set6 hC1 _ _ _ _ _ _ (by simp) | with_reducible exact (Blk.set6 hC1 _ _ _ _ _ _ (by simp)).drew
        · repeat (first | with_reducible assumption | with_reducible exact Keeps.refl _ _ | with_reducible refine Keeps.drew ?_ | with_reducible refine Keeps.drewN ?_ _ | with_reducible refine Keeps.setCell ?_ ?_ _ | with_reducible refine Keeps.alloc ?_ ?_ _)
          all_goals (first | (simp; done) | (simp; omega) | (intro b hb; first | exact hb | omega | (simp; omega) | (simp only [World.size_alloc]; omega)))
        clear z0 z1 z2 z3 z4 z5 d0 d1 d2 d3 d4 d5 f1 hC0 hC1 hC2 hkr
        rintro W2 ⟨g1, g2⟩
        have d0 := (g1).cell 0
        have d1 := (g1).cell 1
        have d2 := (g1).cell 2
        have d3 := (g1).cell 3
        have d4 := (g1).cell 4
        have d5 := (g1).cell 5
        simp only [List.getElem?_cons_zero, List.getElem?_cons_succ] at d0 d1 d2 d3 d4 d5
        refine bodyPost_ret (v := .tuple #[.agg #[.int .i64 (4 * s0), .int .i64 0, .int .i64 0, .int .i64 0, .int .i64 0, .int .i64 0], .bool false]) ?_ rfl ?_
        · simp [results, Tryd.results60, go_sem, d0, d1, d2, d3, d4, d5]
        · exact hR'.out _ _ ⟨⟨4 * s0, 0, 0, 0, 0, 0⟩, rfl, g2⟩

set_option maxRecDepth 100000 in
set_option maxHeartbeats 2000000 in
theorem sizes_bad2 (c : ConfM) (d0 : 1 ≤ c.docs) (d1 : c.docs ≤ 64) (t0 : 64 ≤ c.terms) (t1 : c.terms ≤ 256) (k0 : 0 ≤ c.book) (k1 : c.book ≤ 65536) (r0 : 0 ≤ c.room) (r1 : c.room ≤ 65536) (hs : (0 ≤ c.s0 ∧ c.s0 ≤ 512) ∧ (0 ≤ c.s1 ∧ c.s1 ≤ 512)) (hbad : c.s2 < 0 ∨ c.s2 > 512) (w : World) :
    Calls Tryd.prog 60 #[.agg c.list.toArray] w fun e w' => ∃ u : V6, e = .returned (.tuple #[u.val, .bool false]) ∧ Keeps (· < w.heap.size) w w' := by
  obtain ⟨docs, terms, s0, s1, s2, s3, book, room, kk, bb⟩ := c
  simp only at d0 d1 t0 t1 k0 k1 r0 r1 hs hbad
  obtain ⟨⟨ha0, hb0⟩, ⟨ha1, hb1⟩⟩ := hs
  refine calls_hide fun R' hR' => ?_
  unfold ConfM.list
  go_enter Tryd.func60, Tryd.ntmps60
  go_wp2_with fail
  refine wp_gen (fun W => Blk W w.heap.size [.int .i64 docs, .int .i64 terms, .int .i64 s0, .int .i64 s1, .int .i64 s2, .int .i64 s3, .int .i64 book, .int .i64 room, kk, bb] ∧ Blk W (w.heap.size + 1) [.int .i64 0, .int .i64 0, .int .i64 0, .int .i64 0, .int .i64 0, .int .i64 0] ∧
    Blk W (w.heap.size + 1 + 1) [.int .i64 0, .int .i64 0, .int .i64 0, .int .i64 0, .int .i64 0, .int .i64 0] ∧ Keeps (· < w.heap.size) w W) ⟨?_, ?_, ?_, ?_⟩ ?_
  · repeat (first | with_reducible assumption | with_reducible exact Blk.new _ _ _ | with_reducible refine Blk.drew ?_ | with_reducible refine Blk.drewN ?_ _ | with_reducible refine Blk.set_ne ?_ _ ?_ | (with_reducible refine Blk.new' _ _ _ ?_; focus (simp; done)) | with_reducible refine Blk.alloc ?_ _)
    all_goals (first | assumption | (simp; done) | (simp; omega))
  · repeat (first | with_reducible assumption | with_reducible exact Blk.new _ _ _ | with_reducible refine Blk.drew ?_ | with_reducible refine Blk.drewN ?_ _ | with_reducible refine Blk.set_ne ?_ _ ?_ | (with_reducible refine Blk.new' _ _ _ ?_; focus (simp; done)) | with_reducible refine Blk.alloc ?_ _)
    all_goals (first | assumption | (simp; done) | (simp; omega))
  · repeat (first | with_reducible assumption | with_reducible exact Blk.new _ _ _ | with_reducible refine Blk.drew ?_ | with_reducible refine Blk.drewN ?_ _ | with_reducible refine BlkN.set1 ?_ _ | with_reducible refine BlkN.set6 ?_ _ _ _ _ _ _ | with_reducible exact BlkN.of1 (by with_reducible assumption) | with_reducible exact BlkN.of6 (by with_reducible assumption) | with_reducible refine BlkN.drew ?_ | with_reducible refine BlkN.drewN ?_ _ | with_reducible refine BlkN.set_ne ?_ _ ?_ | with_reducible refine BlkN.alloc ?_ _ | with_reducible refine Blk.set_ne ?_ _ ?_ | (with_reducible refine Blk.new' _ _ _ ?_; focus (simp; done)) | with_reducible refine Blk.alloc ?_ _)
    all_goals (first | assumption | (simp; done) | (simp; omega))
  · repeat (first | with_reducible assumption | with_reducible exact Keeps.refl _ _ | with_reducible refine Keeps.drew ?_ | with_reducible refine Keeps.drewN ?_ _ | with_reducible refine Keeps.setCell ?_ ?_ _ | with_reducible refine Keeps.alloc ?_ ?_ _)
    all_goals (first | (simp; done) | (simp; omega) | (intro b hb; first | exact hb | omega | (simp; omega) | (simp only [World.size_alloc]; omega)))
  rintro W ⟨hB0, hB1, hB2, hk⟩
  generalize hb : w.heap.size = b at *
  have Hb := hid hb
  clear hb
  go_loopw [5, 6] (fun all kv wr => ∃ k : Nat, k ≤ 2 ∧ kv = .int .i64 k ∧ all = .int .i64 (baseC ⟨docs, terms, s0, s1, s2, s3, book, room, kk, bb⟩ k) ∧ Blk wr b [.int .i64 docs, .int .i64 terms, .int .i64 s0, .int .i64 s1, .int .i64 s2, .int .i64 s3, .int .i64 book, .int .i64 room, kk, bb] ∧
    Blk wr (b + 1) [.int .i64 0, .int .i64 0, .int .i64 0, .int .i64 0, .int .i64 0, .int .i64 0] ∧ Blk wr (b + 1 + 1) (six (upto k (szC ⟨docs, terms, s0, s1, s2, s3, book, room, kk, bb⟩))) ∧ Keeps (· < b) w wr) (fun _ kv _ => 6 - (intOf kv).toNat)
  case atStart => exact ⟨0, by omega, rfl, rfl, hB0, hB1, hB2, hk⟩
  case round =>
    obtain ⟨k, hk6, rfl, rfl, hC0, hC1, hC2, hkr⟩ := hrel
    clear hB0 hB1 hB2 hk
    have c0 := (hC0).cell 0
    have c1 := (hC0).cell 1
    have c2 := (hC0).cell 2
    have c3 := (hC0).cell 3
    have c4 := (hC0).cell 4
    have c5 := (hC0).cell 5
    have c6 := (hC0).cell 6
    have c7 := (hC0).cell 7
    have c8 := (hC0).cell 8
    have c9 := (hC0).cell 9
    simp only [List.getElem?_cons_zero, List.getElem?_cons_succ] at c0 c1 c2 c3 c4 c5 c6 c7 c8 c9
    rcases (by omega : k = 0 ∨ k = 1 ∨ k = 2) with rfl | rfl | rfl
    · simp only [baseC, szC, six, upto, Nat.lt_irrefl, Nat.not_lt_zero, if_true, if_false, Nat.zero_lt_succ, Nat.reduceLT] at *
      have z0 := (hC2).cell 0
      have z1 := (hC2).cell 1
      have z2 := (hC2).cell 2
      have z3 := (hC2).cell 3
      have z4 := (hC2).cell 4
      have z5 := (hC2).cell 5
      simp only [List.getElem?_cons_zero, List.getElem?_cons_succ] at z0 z1 z2 z3 z4 z5
      have f2 := hC2.free
      go_wp2_with fail
      refine wp_region_still_tail 9 (by kernel_rfl) (by kernel_rfl) ?_
      simp only [List.take_succ_cons, List.take_zero, List.drop_succ_cons, List.drop_zero]
      have hw1 : IntKind.i64.wrap (s0 * 4) = s0 * 4 := IntWalk.i64_in _ (by omega)
      repeat (first | still_step | still_call (slab_at0 _))
      refine wpStill_nil ?_
      change wpList _ _ _ _ _ wr.drew
      go_wp2_with fail
      go_roundw
      case rel =>
        refine ⟨1, by omega, rfl, congrArg (Value.int .i64) (by simp only [baseC, szC] <;> omega), ?_, ?_, ?_, ?_⟩
        · repeat (first | with_reducible assumption | with_reducible exact Blk.new _ _ _ | with_reducible refine Blk.drew ?_ | with_reducible refine Blk.drewN ?_ _ | with_reducible refine Blk.set_ne ?_ _ ?_ | (with_reducible refine Blk.new' _ _ _ ?_; focus (simp; done)) | with_reducible refine Blk.alloc ?_ _)
          all_goals (first | assumption | (simp; done) | (simp; omega))
        · repeat (first | with_reducible assumption | with_reducible exact Blk.new _ _ _ | with_reducible refine Blk.drew ?_ | with_reducible refine Blk.drewN ?_ _ | with_reducible refine Blk.set_ne ?_ _ ?_ | (with_reducible refine Blk.new' _ _ _ ?_; focus (simp; done)) | with_reducible refine Blk.alloc ?_ _)
          all_goals (first | assumption | (simp; done) | (simp; omega))
        · have hx := hC2.set 0 (.int .i64 (s0 * 4))
          first
            | (refine Blk.drew ?_; simpa [six, upto, szC, Int.mul_comm] using hx)
            | simpa [six, upto, szC, Int.mul_comm] using hx
        · repeat (first | with_reducible assumption | with_reducible exact Keeps.refl _ _ | with_reducible refine Keeps.drew ?_ | with_reducible refine Keeps.drewN ?_ _ | with_reducible refine Keeps.setCell ?_ ?_ _ | with_reducible refine Keeps.alloc ?_ ?_ _)
          all_goals (first | (simp; done) | (simp; omega) | (intro b hb; first | exact hb | omega | (simp; omega) | (simp only [World.size_alloc]; omega)))
      case measure => simp [intOf]
    · simp only [baseC, szC, six, upto, Nat.lt_irrefl, Nat.not_lt_zero, if_true, if_false, Nat.zero_lt_succ, Nat.reduceLT] at *
      have z0 := (hC2).cell 0
      have z1 := (hC2).cell 1
      have z2 := (hC2).cell 2
      have z3 := (hC2).cell 3
      have z4 := (hC2).cell 4
      have z5 := (hC2).cell 5
      simp only [List.getElem?_cons_zero, List.getElem?_cons_succ] at z0 z1 z2 z3 z4 z5
      have f2 := hC2.free
      go_wp2_with fail
      refine wp_region_still_tail 9 (by kernel_rfl) (by kernel_rfl) ?_
      simp only [List.take_succ_cons, List.take_zero, List.drop_succ_cons, List.drop_zero]
      have hw1 : IntKind.i64.wrap (s1 * 16) = s1 * 16 := IntWalk.i64_in _ (by omega)
      repeat (first | still_step | still_call (slab_at1 _))
      refine wpStill_nil ?_
      change wpList _ _ _ _ _ wr.drew
      go_wp2_with fail
      go_roundw
      case rel =>
        refine ⟨2, by omega, rfl, congrArg (Value.int .i64) (by simp only [baseC, szC] <;> omega), ?_, ?_, ?_, ?_⟩
        · repeat (first | with_reducible assumption | with_reducible exact Blk.new _ _ _ | with_reducible refine Blk.drew ?_ | with_reducible refine Blk.drewN ?_ _ | with_reducible refine Blk.set_ne ?_ _ ?_ | (with_reducible refine Blk.new' _ _ _ ?_; focus (simp; done)) | with_reducible refine Blk.alloc ?_ _)
          all_goals (first | assumption | (simp; done) | (simp; omega))
        · repeat (first | with_reducible assumption | with_reducible exact Blk.new _ _ _ | with_reducible refine Blk.drew ?_ | with_reducible refine Blk.drewN ?_ _ | with_reducible refine Blk.set_ne ?_ _ ?_ | (with_reducible refine Blk.new' _ _ _ ?_; focus (simp; done)) | with_reducible refine Blk.alloc ?_ _)
          all_goals (first | assumption | (simp; done) | (simp; omega))
        · have hx := hC2.set 1 (.int .i64 (s1 * 16))
          first
            | (refine Blk.drew ?_; simpa [six, upto, szC, Int.mul_comm] using hx)
            | simpa [six, upto, szC, Int.mul_comm] using hx
        · repeat (first | with_reducible assumption | with_reducible exact Keeps.refl _ _ | with_reducible refine Keeps.drew ?_ | with_reducible refine Keeps.drewN ?_ _ | with_reducible refine Keeps.setCell ?_ ?_ _ | with_reducible refine Keeps.alloc ?_ ?_ _)
          all_goals (first | (simp; done) | (simp; omega) | (intro b hb; first | exact hb | omega | (simp; omega) | (simp only [World.size_alloc]; omega)))
      case measure => simp [intOf]
    · skip
      simp only [baseC, szC, six, upto, Nat.lt_irrefl, Nat.not_lt_zero, if_true, if_false, Nat.zero_lt_succ, Nat.reduceLT] at *
      have z0 := (hC2).cell 0
      have z1 := (hC2).cell 1
      have z2 := (hC2).cell 2
      have z3 := (hC2).cell 3
      have z4 := (hC2).cell 4
      have z5 := (hC2).cell 5
      simp only [List.getElem?_cons_zero, List.getElem?_cons_succ] at z0 z1 z2 z3 z4 z5
      have d0 := (hC1).cell 0
      have d1 := (hC1).cell 1
      have d2 := (hC1).cell 2
      have d3 := (hC1).cell 3
      have d4 := (hC1).cell 4
      have d5 := (hC1).cell 5
      simp only [List.getElem?_cons_zero, List.getElem?_cons_succ] at d0 d1 d2 d3 d4 d5
      have f1 := hC1.free
      rcases hbad with hb1 | hb1
      · have g1 : decide (s2 < 0) = true := decide_eq_true hb1
        go_wp2_with fail
        refine bp_gen (fun W => Blk W (b + 1) [.int .i64 (4 * s0), .int .i64 (16 * s1), .int .i64 0, .int .i64 0, .int .i64 0, .int .i64 0] ∧ Keeps (· < b) w W) ⟨?_, ?_⟩ ?_
        · first | with_reducible exact Blk.set6 hC1 _ _ _ _ _ _ (by simp) | with_reducible exact (Blk.set6 hC1 _ _ _ _ _ _ (by simp)).drew
        · repeat (first | with_reducible assumption | with_reducible exact Keeps.refl _ _ | with_reducible refine Keeps.drew ?_ | with_reducible refine Keeps.drewN ?_ _ | with_reducible refine Keeps.setCell ?_ ?_ _ | with_reducible refine Keeps.alloc ?_ ?_ _)
          all_goals (first | (simp; done) | (simp; omega) | (intro b hb; first | exact hb | omega | (simp; omega) | (simp only [World.size_alloc]; omega)))
        clear z0 z1 z2 z3 z4 z5 d0 d1 d2 d3 d4 d5 f1 hC0 hC1 hC2 hkr
        rintro W2 ⟨g1, g2⟩
        have d0 := (g1).cell 0
        have d1 := (g1).cell 1
        have d2 := (g1).cell 2
        have d3 := (g1).cell 3
        have d4 := (g1).cell 4
        have d5 := (g1).cell 5
        simp only [List.getElem?_cons_zero, List.getElem?_cons_succ] at d0 d1 d2 d3 d4 d5
        refine bodyPost_ret (v := .tuple #[.agg #[.int .i64 (4 * s0), .int .i64 (16 * s1), .int .i64 0, .int .i64 0, .int .i64 0, .int .i64 0], .bool false]) ?_ rfl ?_
        · simp [results, Tryd.results60, go_sem, d0, d1, d2, d3, d4, d5]
        · exact hR'.out _ _ ⟨⟨4 * s0, 16 * s1, 0, 0, 0, 0⟩, rfl, g2⟩
      · have g1 : decide (s2 < 0) = false := decide_eq_false (by omega)
        have g2 : decide (s2 > 512) = true := decide_eq_true hb1
        go_wp2_with fail
        refine bp_gen (fun W => Blk W (b + 1) [.int .i64 (4 * s0), .int .i64 (16 * s1), .int .i64 0, .int .i64 0, .int .i64 0, .int .i64 0] ∧ Keeps (· < b) w W) ⟨?_, ?_⟩ ?_
        · first | with_reducible exact Blk.set6 hC1 _ _ _ _ _ _ (by simp) | with_reducible exact (Blk.set6 hC1 _ _ _ _ _ _ (by simp)).drew
        · repeat (first | with_reducible assumption | with_reducible exact Keeps.refl _ _ | with_reducible refine Keeps.drew ?_ | with_reducible refine Keeps.drewN ?_ _ | with_reducible refine Keeps.setCell ?_ ?_ _ | with_reducible refine Keeps.alloc ?_ ?_ _)
          all_goals (first | (simp; done) | (simp; omega) | (intro b hb; first | exact hb | omega | (simp; omega) | (simp only [World.size_alloc]; omega)))
        clear z0 z1 z2 z3 z4 z5 d0 d1 d2 d3 d4 d5 f1 hC0 hC1 hC2 hkr
        rintro W2 ⟨g1, g2⟩
        have d0 := (g1).cell 0
        have d1 := (g1).cell 1
        have d2 := (g1).cell 2
        have d3 := (g1).cell 3
        have d4 := (g1).cell 4
        have d5 := (g1).cell 5
        simp only [List.getElem?_cons_zero, List.getElem?_cons_succ] at d0 d1 d2 d3 d4 d5
        refine bodyPost_ret (v := .tuple #[.agg #[.int .i64 (4 * s0), .int .i64 (16 * s1), .int .i64 0, .int .i64 0, .int .i64 0, .int .i64 0], .bool false]) ?_ rfl ?_
        · simp [results, Tryd.results60, go_sem, d0, d1, d2, d3, d4, d5]
        · exact hR'.out _ _ ⟨⟨4 * s0, 16 * s1, 0, 0, 0, 0⟩, rfl, g2⟩

set_option maxRecDepth 100000 in
set_option maxHeartbeats 2000000 in
theorem sizes_bad3 (c : ConfM) (d0 : 1 ≤ c.docs) (d1 : c.docs ≤ 64) (t0 : 64 ≤ c.terms) (t1 : c.terms ≤ 256) (k0 : 0 ≤ c.book) (k1 : c.book ≤ 65536) (r0 : 0 ≤ c.room) (r1 : c.room ≤ 65536) (hs : (0 ≤ c.s0 ∧ c.s0 ≤ 512) ∧ (0 ≤ c.s1 ∧ c.s1 ≤ 512) ∧ (0 ≤ c.s2 ∧ c.s2 ≤ 512)) (hbad : c.s3 < 0 ∨ c.s3 > 512) (w : World) :
    Calls Tryd.prog 60 #[.agg c.list.toArray] w fun e w' => ∃ u : V6, e = .returned (.tuple #[u.val, .bool false]) ∧ Keeps (· < w.heap.size) w w' := by
  obtain ⟨docs, terms, s0, s1, s2, s3, book, room, kk, bb⟩ := c
  simp only at d0 d1 t0 t1 k0 k1 r0 r1 hs hbad
  obtain ⟨⟨ha0, hb0⟩, ⟨ha1, hb1⟩, ⟨ha2, hb2⟩⟩ := hs
  refine calls_hide fun R' hR' => ?_
  unfold ConfM.list
  go_enter Tryd.func60, Tryd.ntmps60
  go_wp2_with fail
  refine wp_gen (fun W => Blk W w.heap.size [.int .i64 docs, .int .i64 terms, .int .i64 s0, .int .i64 s1, .int .i64 s2, .int .i64 s3, .int .i64 book, .int .i64 room, kk, bb] ∧ Blk W (w.heap.size + 1) [.int .i64 0, .int .i64 0, .int .i64 0, .int .i64 0, .int .i64 0, .int .i64 0] ∧
    Blk W (w.heap.size + 1 + 1) [.int .i64 0, .int .i64 0, .int .i64 0, .int .i64 0, .int .i64 0, .int .i64 0] ∧ Keeps (· < w.heap.size) w W) ⟨?_, ?_, ?_, ?_⟩ ?_
  · repeat (first | with_reducible assumption | with_reducible exact Blk.new _ _ _ | with_reducible refine Blk.drew ?_ | with_reducible refine Blk.drewN ?_ _ | with_reducible refine Blk.set_ne ?_ _ ?_ | (with_reducible refine Blk.new' _ _ _ ?_; focus (simp; done)) | with_reducible refine Blk.alloc ?_ _)
    all_goals (first | assumption | (simp; done) | (simp; omega))
  · repeat (first | with_reducible assumption | with_reducible exact Blk.new _ _ _ | with_reducible refine Blk.drew ?_ | with_reducible refine Blk.drewN ?_ _ | with_reducible refine Blk.set_ne ?_ _ ?_ | (with_reducible refine Blk.new' _ _ _ ?_; focus (simp; done)) | with_reducible refine Blk.alloc ?_ _)
    all_goals (first | assumption | (simp; done) | (simp; omega))
  · repeat (first | with_reducible assumption | with_reducible exact Blk.new _ _ _ | with_reducible refine Blk.drew ?_ | with_reducible refine Blk.drewN ?_ _ | with_reducible refine BlkN.set1 ?_ _ | with_reducible refine BlkN.set6 ?_ _ _ _ _ _ _ | with_reducible exact BlkN.of1 (by with_reducible assumption) | with_reducible exact BlkN.of6 (by with_reducible assumption) | with_reducible refine BlkN.drew ?_ | with_reducible refine BlkN.drewN ?_ _ | with_reducible refine BlkN.set_ne ?_ _ ?_ | with_reducible refine BlkN.alloc ?_ _ | with_reducible refine Blk.set_ne ?_ _ ?_ | (with_reducible refine Blk.new' _ _ _ ?_; focus (simp; done)) | with_reducible refine Blk.alloc ?_ _)
    all_goals (first | assumption | (simp; done) | (simp; omega))
  · repeat (first | with_reducible assumption | with_reducible exact Keeps.refl _ _ | with_reducible refine Keeps.drew ?_ | with_reducible refine Keeps.drewN ?_ _ | with_reducible refine Keeps.setCell ?_ ?_ _ | with_reducible refine Keeps.alloc ?_ ?_ _)
    all_goals (first | (simp; done) | (simp; omega) | (intro b hb; first | exact hb | omega | (simp; omega) | (simp only [World.size_alloc]; omega)))
  rintro W ⟨hB0, hB1, hB2, hk⟩
  generalize hb : w.heap.size = b at *
  have Hb := hid hb
  clear hb
  go_loopw [5, 6] (fun all kv wr => ∃ k : Nat, k ≤ 3 ∧ kv = .int .i64 k ∧ all = .int .i64 (baseC ⟨docs, terms, s0, s1, s2, s3, book, room, kk, bb⟩ k) ∧ Blk wr b [.int .i64 docs, .int .i64 terms, .int .i64 s0, .int .i64 s1, .int .i64 s2, .int .i64 s3, .int .i64 book, .int .i64 room, kk, bb] ∧
    Blk wr (b + 1) [.int .i64 0, .int .i64 0, .int .i64 0, .int .i64 0, .int .i64 0, .int .i64 0] ∧ Blk wr (b + 1 + 1) (six (upto k (szC ⟨docs, terms, s0, s1, s2, s3, book, room, kk, bb⟩))) ∧ Keeps (· < b) w wr) (fun _ kv _ => 6 - (intOf kv).toNat)
  case atStart => exact ⟨0, by omega, rfl, rfl, hB0, hB1, hB2, hk⟩
  case round =>
    obtain ⟨k, hk6, rfl, rfl, hC0, hC1, hC2, hkr⟩ := hrel
    clear hB0 hB1 hB2 hk
    have c0 := (hC0).cell 0
    have c1 := (hC0).cell 1
    have c2 := (hC0).cell 2
    have c3 := (hC0).cell 3
    have c4 := (hC0).cell 4
    have c5 := (hC0).cell 5
    have c6 := (hC0).cell 6
    have c7 := (hC0).cell 7
    have c8 := (hC0).cell 8
    have c9 := (hC0).cell 9
    simp only [List.getElem?_cons_zero, List.getElem?_cons_succ] at c0 c1 c2 c3 c4 c5 c6 c7 c8 c9
    rcases (by omega : k = 0 ∨ k = 1 ∨ k = 2 ∨ k = 3) with rfl | rfl | rfl | rfl
    · simp only [baseC, szC, six, upto, Nat.lt_irrefl, Nat.not_lt_zero, if_true, if_false, Nat.zero_lt_succ, Nat.reduceLT] at *
      have z0 := (hC2).cell 0
      have z1 := (hC2).cell 1
      have z2 := (hC2).cell 2
      have z3 := (hC2).cell 3
      have z4 := (hC2).cell 4
      have z5 := (hC2).cell 5
      simp only [List.getElem?_cons_zero, List.getElem?_cons_succ] at z0 z1 z2 z3 z4 z5
      have f2 := hC2.free
      go_wp2_with fail
      refine wp_region_still_tail 9 (by kernel_rfl) (by kernel_rfl) ?_
      simp only [List.take_succ_cons, List.take_zero, List.drop_succ_cons, List.drop_zero]
      have hw1 : IntKind.i64.wrap (s0 * 4) = s0 * 4 := IntWalk.i64_in _ (by omega)
      repeat (first | still_step | still_call (slab_at0 _))
      refine wpStill_nil ?_
      change wpList _ _ _ _ _ wr.drew
      go_wp2_with fail
      go_roundw
      case rel =>
        refine ⟨1, by omega, rfl, congrArg (Value.int .i64) (by simp only [baseC, szC] <;> omega), ?_, ?_, ?_, ?_⟩
        · repeat (first | with_reducible assumption | with_reducible exact Blk.new _ _ _ | with_reducible refine Blk.drew ?_ | with_reducible refine Blk.drewN ?_ _ | with_reducible refine Blk.set_ne ?_ _ ?_ | (with_reducible refine Blk.new' _ _ _ ?_; focus (simp; done)) | with_reducible refine Blk.alloc ?_ _)
          all_goals (first | assumption | (simp; done) | (simp; omega))
        · repeat (first | with_reducible assumption | with_reducible exact Blk.new _ _ _ | with_reducible refine Blk.drew ?_ | with_reducible refine Blk.drewN ?_ _ | with_reducible refine Blk.set_ne ?_ _ ?_ | (with_reducible refine Blk.new' _ _ _ ?_; focus (simp; done)) | with_reducible refine Blk.alloc ?_ _)
          all_goals (first | assumption | (simp; done) | (simp; omega))
        · have hx := hC2.set 0 (.int .i64 (s0 * 4))
          first
            | (refine Blk.drew ?_; simpa [six, upto, szC, Int.mul_comm] using hx)
            | simpa [six, upto, szC, Int.mul_comm] using hx
        · repeat (first | with_reducible assumption | with_reducible exact Keeps.refl _ _ | with_reducible refine Keeps.drew ?_ | with_reducible refine Keeps.drewN ?_ _ | with_reducible refine Keeps.setCell ?_ ?_ _ | with_reducible refine Keeps.alloc ?_ ?_ _)
          all_goals (first | (simp; done) | (simp; omega) | (intro b hb; first | exact hb | omega | (simp; omega) | (simp only [World.size_alloc]; omega)))
      case measure => simp [intOf]
    · simp only [baseC, szC, six, upto, Nat.lt_irrefl, Nat.not_lt_zero, if_true, if_false, Nat.zero_lt_succ, Nat.reduceLT] at *
      have z0 := (hC2).cell 0
      have z1 := (hC2).cell 1
      have z2 := (hC2).cell 2
      have z3 := (hC2).cell 3
      have z4 := (hC2).cell 4
      have z5 := (hC2).cell 5
      simp only [List.getElem?_cons_zero, List.getElem?_cons_succ] at z0 z1 z2 z3 z4 z5
      have f2 := hC2.free
      go_wp2_with fail
      refine wp_region_still_tail 9 (by kernel_rfl) (by kernel_rfl) ?_
      simp only [List.take_succ_cons, List.take_zero, List.drop_succ_cons, List.drop_zero]
      have hw1 : IntKind.i64.wrap (s1 * 16) = s1 * 16 := IntWalk.i64_in _ (by omega)
      repeat (first | still_step | still_call (slab_at1 _))
      refine wpStill_nil ?_
      change wpList _ _ _ _ _ wr.drew
      go_wp2_with fail
      go_roundw
      case rel =>
        refine ⟨2, by omega, rfl, congrArg (Value.int .i64) (by simp only [baseC, szC] <;> omega), ?_, ?_, ?_, ?_⟩
        · repeat (first | with_reducible assumption | with_reducible exact Blk.new _ _ _ | with_reducible refine Blk.drew ?_ | with_reducible refine Blk.drewN ?_ _ | with_reducible refine Blk.set_ne ?_ _ ?_ | (with_reducible refine Blk.new' _ _ _ ?_; focus (simp; done)) | with_reducible refine Blk.alloc ?_ _)
          all_goals (first | assumption | (simp; done) | (simp; omega))
        · repeat (first | with_reducible assumption | with_reducible exact Blk.new _ _ _ | with_reducible refine Blk.drew ?_ | with_reducible refine Blk.drewN ?_ _ | with_reducible refine Blk.set_ne ?_ _ ?_ | (with_reducible refine Blk.new' _ _ _ ?_; focus (simp; done)) | with_reducible refine Blk.alloc ?_ _)
          all_goals (first | assumption | (simp; done) | (simp; omega))
        · have hx := hC2.set 1 (.int .i64 (s1 * 16))
          first
            | (refine Blk.drew ?_; simpa [six, upto, szC, Int.mul_comm] using hx)
            | simpa [six, upto, szC, Int.mul_comm] using hx
        · repeat (first | with_reducible assumption | with_reducible exact Keeps.refl _ _ | with_reducible refine Keeps.drew ?_ | with_reducible refine Keeps.drewN ?_ _ | with_reducible refine Keeps.setCell ?_ ?_ _ | with_reducible refine Keeps.alloc ?_ ?_ _)
          all_goals (first | (simp; done) | (simp; omega) | (intro b hb; first | exact hb | omega | (simp; omega) | (simp only [World.size_alloc]; omega)))
      case measure => simp [intOf]
    · simp only [baseC, szC, six, upto, Nat.lt_irrefl, Nat.not_lt_zero, if_true, if_false, Nat.zero_lt_succ, Nat.reduceLT] at *
      have z0 := (hC2).cell 0
      have z1 := (hC2).cell 1
      have z2 := (hC2).cell 2
      have z3 := (hC2).cell 3
      have z4 := (hC2).cell 4
      have z5 := (hC2).cell 5
      simp only [List.getElem?_cons_zero, List.getElem?_cons_succ] at z0 z1 z2 z3 z4 z5
      have f2 := hC2.free
      go_wp2_with fail
      refine wp_region_still_tail 9 (by kernel_rfl) (by kernel_rfl) ?_
      simp only [List.take_succ_cons, List.take_zero, List.drop_succ_cons, List.drop_zero]
      have hw1 : IntKind.i64.wrap (s2 * 64) = s2 * 64 := IntWalk.i64_in _ (by omega)
      repeat (first | still_step | still_call (slab_at2 _))
      refine wpStill_nil ?_
      change wpList _ _ _ _ _ wr.drew
      go_wp2_with fail
      go_roundw
      case rel =>
        refine ⟨3, by omega, rfl, congrArg (Value.int .i64) (by simp only [baseC, szC] <;> omega), ?_, ?_, ?_, ?_⟩
        · repeat (first | with_reducible assumption | with_reducible exact Blk.new _ _ _ | with_reducible refine Blk.drew ?_ | with_reducible refine Blk.drewN ?_ _ | with_reducible refine Blk.set_ne ?_ _ ?_ | (with_reducible refine Blk.new' _ _ _ ?_; focus (simp; done)) | with_reducible refine Blk.alloc ?_ _)
          all_goals (first | assumption | (simp; done) | (simp; omega))
        · repeat (first | with_reducible assumption | with_reducible exact Blk.new _ _ _ | with_reducible refine Blk.drew ?_ | with_reducible refine Blk.drewN ?_ _ | with_reducible refine Blk.set_ne ?_ _ ?_ | (with_reducible refine Blk.new' _ _ _ ?_; focus (simp; done)) | with_reducible refine Blk.alloc ?_ _)
          all_goals (first | assumption | (simp; done) | (simp; omega))
        · have hx := hC2.set 2 (.int .i64 (s2 * 64))
          first
            | (refine Blk.drew ?_; simpa [six, upto, szC, Int.mul_comm] using hx)
            | simpa [six, upto, szC, Int.mul_comm] using hx
        · repeat (first | with_reducible assumption | with_reducible exact Keeps.refl _ _ | with_reducible refine Keeps.drew ?_ | with_reducible refine Keeps.drewN ?_ _ | with_reducible refine Keeps.setCell ?_ ?_ _ | with_reducible refine Keeps.alloc ?_ ?_ _)
          all_goals (first | (simp; done) | (simp; omega) | (intro b hb; first | exact hb | omega | (simp; omega) | (simp only [World.size_alloc]; omega)))
      case measure => simp [intOf]
    · skip
      simp only [baseC, szC, six, upto, Nat.lt_irrefl, Nat.not_lt_zero, if_true, if_false, Nat.zero_lt_succ, Nat.reduceLT] at *
      have z0 := (hC2).cell 0
      have z1 := (hC2).cell 1
      have z2 := (hC2).cell 2
      have z3 := (hC2).cell 3
      have z4 := (hC2).cell 4
      have z5 := (hC2).cell 5
      simp only [List.getElem?_cons_zero, List.getElem?_cons_succ] at z0 z1 z2 z3 z4 z5
      have d0 := (hC1).cell 0
      have d1 := (hC1).cell 1
      have d2 := (hC1).cell 2
      have d3 := (hC1).cell 3
      have d4 := (hC1).cell 4
      have d5 := (hC1).cell 5
      simp only [List.getElem?_cons_zero, List.getElem?_cons_succ] at d0 d1 d2 d3 d4 d5
      have f1 := hC1.free
      rcases hbad with hb1 | hb1
      · have g1 : decide (s3 < 0) = true := decide_eq_true hb1
        go_wp2_with fail
        refine bp_gen (fun W => Blk W (b + 1) [.int .i64 (4 * s0), .int .i64 (16 * s1), .int .i64 (64 * s2), .int .i64 0, .int .i64 0, .int .i64 0] ∧ Keeps (· < b) w W) ⟨?_, ?_⟩ ?_
        · first | with_reducible exact Blk.set6 hC1 _ _ _ _ _ _ (by simp) | with_reducible exact (Blk.set6 hC1 _ _ _ _ _ _ (by simp)).drew
        · repeat (first | with_reducible assumption | with_reducible exact Keeps.refl _ _ | with_reducible refine Keeps.drew ?_ | with_reducible refine Keeps.drewN ?_ _ | with_reducible refine Keeps.setCell ?_ ?_ _ | with_reducible refine Keeps.alloc ?_ ?_ _)
          all_goals (first | (simp; done) | (simp; omega) | (intro b hb; first | exact hb | omega | (simp; omega) | (simp only [World.size_alloc]; omega)))
        clear z0 z1 z2 z3 z4 z5 d0 d1 d2 d3 d4 d5 f1 hC0 hC1 hC2 hkr
        rintro W2 ⟨g1, g2⟩
        have d0 := (g1).cell 0
        have d1 := (g1).cell 1
        have d2 := (g1).cell 2
        have d3 := (g1).cell 3
        have d4 := (g1).cell 4
        have d5 := (g1).cell 5
        simp only [List.getElem?_cons_zero, List.getElem?_cons_succ] at d0 d1 d2 d3 d4 d5
        refine bodyPost_ret (v := .tuple #[.agg #[.int .i64 (4 * s0), .int .i64 (16 * s1), .int .i64 (64 * s2), .int .i64 0, .int .i64 0, .int .i64 0], .bool false]) ?_ rfl ?_
        · simp [results, Tryd.results60, go_sem, d0, d1, d2, d3, d4, d5]
        · exact hR'.out _ _ ⟨⟨4 * s0, 16 * s1, 64 * s2, 0, 0, 0⟩, rfl, g2⟩
      · have g1 : decide (s3 < 0) = false := decide_eq_false (by omega)
        have g2 : decide (s3 > 512) = true := decide_eq_true hb1
        go_wp2_with fail
        refine bp_gen (fun W => Blk W (b + 1) [.int .i64 (4 * s0), .int .i64 (16 * s1), .int .i64 (64 * s2), .int .i64 0, .int .i64 0, .int .i64 0] ∧ Keeps (· < b) w W) ⟨?_, ?_⟩ ?_
        · first | with_reducible exact Blk.set6 hC1 _ _ _ _ _ _ (by simp) | with_reducible exact (Blk.set6 hC1 _ _ _ _ _ _ (by simp)).drew
        · repeat (first | with_reducible assumption | with_reducible exact Keeps.refl _ _ | with_reducible refine Keeps.drew ?_ | with_reducible refine Keeps.drewN ?_ _ | with_reducible refine Keeps.setCell ?_ ?_ _ | with_reducible refine Keeps.alloc ?_ ?_ _)
          all_goals (first | (simp; done) | (simp; omega) | (intro b hb; first | exact hb | omega | (simp; omega) | (simp only [World.size_alloc]; omega)))
        clear z0 z1 z2 z3 z4 z5 d0 d1 d2 d3 d4 d5 f1 hC0 hC1 hC2 hkr
        rintro W2 ⟨g1, g2⟩
        have d0 := (g1).cell 0
        have d1 := (g1).cell 1
        have d2 := (g1).cell 2
        have d3 := (g1).cell 3
        have d4 := (g1).cell 4
        have d5 := (g1).cell 5
        simp only [List.getElem?_cons_zero, List.getElem?_cons_succ] at d0 d1 d2 d3 d4 d5
        refine bodyPost_ret (v := .tuple #[.agg #[.int .i64 (4 * s0), .int .i64 (16 * s1), .int .i64 (64 * s2), .int .i64 0, .int .i64 0, .int .i64 0], .bool false]) ?_ rfl ?_
        · simp [results, Tryd.results60, go_sem, d0, d1, d2, d3, d4, d5]
        · exact hR'.out _ _ ⟨⟨4 * s0, 16 * s1, 64 * s2, 0, 0, 0⟩, rfl, g2⟩

theorem int_gt {a b : Int} (h : ¬ a > b) : a ≤ b := by omega
set_option maxRecDepth 100000 in
set_option maxHeartbeats 4000000 in
theorem sizes_out (c : ConfM) (h : c.docs < 1 ∨ c.docs > 64 ∨ c.terms < 64 ∨ c.terms > 256 ∨ c.book < 0 ∨ c.book > 65536 ∨ c.room < 0 ∨ c.room > 65536) (w : World) :
    Calls Tryd.prog 60 #[.agg c.list.toArray] w fun e w' => ∃ u : V6, e = .returned (.tuple #[u.val, .bool false]) ∧ Keeps (· < w.heap.size) w w' := by
  obtain ⟨docs, terms, s0, s1, s2, s3, book, room, kk, bb⟩ := c
  simp only at h
  refine calls_hide fun R' hR' => ?_
  unfold ConfM.list
  by_cases q0 : docs < 1
  · have g0 : decide (docs < 1) = true := decide_eq_true q0
    clear h
    go_enter Tryd.func60, Tryd.ntmps60
    go_upto_if 45 with fail
    refine wp_gen (fun W => Blk W w.heap.size [.int .i64 docs, .int .i64 terms, .int .i64 s0, .int .i64 s1, .int .i64 s2, .int .i64 s3, .int .i64 book, .int .i64 room, kk, bb] ∧ Blk W (w.heap.size + 1) [.int .i64 0, .int .i64 0, .int .i64 0, .int .i64 0, .int .i64 0, .int .i64 0] ∧
      Blk W (w.heap.size + 1 + 1) [.int .i64 0, .int .i64 0, .int .i64 0, .int .i64 0, .int .i64 0, .int .i64 0] ∧ Keeps (· < w.heap.size) w W) ⟨?_, ?_, ?_, ?_⟩ ?_
    · repeat (first | with_reducible assumption | with_reducible exact Blk.new _ _ _ | with_reducible refine Blk.drew ?_ | with_reducible refine Blk.drewN ?_ _ | with_reducible refine Blk.set_ne ?_ _ ?_ | (with_reducible refine Blk.new' _ _ _ ?_; focus (simp; done)) | with_reducible refine Blk.alloc ?_ _)
      all_goals (first | assumption | (simp; done) | (simp; omega))
    · repeat (first | with_reducible assumption | with_reducible exact Blk.new _ _ _ | with_reducible refine Blk.drew ?_ | with_reducible refine Blk.drewN ?_ _ | with_reducible refine Blk.set_ne ?_ _ ?_ | (with_reducible refine Blk.new' _ _ _ ?_; focus (simp; done)) | with_reducible refine Blk.alloc ?_ _)
      all_goals (first | assumption | (simp; done) | (simp; omega))
    · repeat (first | with_reducible assumption | with_reducible exact Blk.new _ _ _ | with_reducible refine Blk.drew ?_ | with_reducible refine Blk.drewN ?_ _ | with_reducible refine BlkN.set1 ?_ _ | with_reducible refine BlkN.set6 ?_ _ _ _ _ _ _ | with_reducible exact BlkN.of1 (by with_reducible assumption) | with_reducible exact BlkN.of6 (by with_reducible assumption) | with_reducible refine BlkN.drew ?_ | with_reducible refine BlkN.drewN ?_ _ | with_reducible refine BlkN.set_ne ?_ _ ?_ | with_reducible refine BlkN.alloc ?_ _ | with_reducible refine Blk.set_ne ?_ _ ?_ | (with_reducible refine Blk.new' _ _ _ ?_; focus (simp; done)) | with_reducible refine Blk.alloc ?_ _)
      all_goals (first | assumption | (simp; done) | (simp; omega))
    · repeat (first | with_reducible assumption | with_reducible exact Keeps.refl _ _ | with_reducible refine Keeps.drew ?_ | with_reducible refine Keeps.drewN ?_ _ | with_reducible refine Keeps.setCell ?_ ?_ _ | with_reducible refine Keeps.alloc ?_ ?_ _)
      all_goals (first | (simp; done) | (simp; omega) | (intro b hb; first | exact hb | omega | (simp; omega) | (simp only [World.size_alloc]; omega)))
    rintro W ⟨hB0, hB1, hB2, hk⟩
    generalize hb : w.heap.size = b at *
    have Hb := hid hb
    clear hb
    have d0 := (hB1).cell 0
    have d1 := (hB1).cell 1
    have d2 := (hB1).cell 2
    have d3 := (hB1).cell 3
    have d4 := (hB1).cell 4
    have d5 := (hB1).cell 5
    simp only [List.getElem?_cons_zero, List.getElem?_cons_succ] at d0 d1 d2 d3 d4 d5
    have z0 := (hB2).cell 0
    have z1 := (hB2).cell 1
    have z2 := (hB2).cell 2
    have z3 := (hB2).cell 3
    have z4 := (hB2).cell 4
    have z5 := (hB2).cell 5
    simp only [List.getElem?_cons_zero, List.getElem?_cons_succ] at z0 z1 z2 z3 z4 z5
    have f1 := hB1.free
    go_wp2_with fail
    refine bp_gen (fun W => Blk W (b + 1) [.int .i64 0, .int .i64 0, .int .i64 0, .int .i64 0, .int .i64 0, .int .i64 0] ∧ Keeps (· < b) w W) ⟨?_, ?_⟩ ?_
    · first | with_reducible exact Blk.set6 hB1 _ _ _ _ _ _ (by simp) | with_reducible exact (Blk.set6 hB1 _ _ _ _ _ _ (by simp)).drew
    · repeat (first | with_reducible assumption | with_reducible exact Keeps.refl _ _ | with_reducible refine Keeps.drew ?_ | with_reducible refine Keeps.drewN ?_ _ | with_reducible refine Keeps.setCell ?_ ?_ _ | with_reducible refine Keeps.alloc ?_ ?_ _)
      all_goals (first | (simp; done) | (simp; omega) | (intro b hb; first | exact hb | omega | (simp; omega) | (simp only [World.size_alloc]; omega)))
    clear z0 z1 z2 z3 z4 z5 d0 d1 d2 d3 d4 d5 f1 hB0 hB1 hB2 hk
    rintro W2 ⟨g1, g2⟩
    have d0 := (g1).cell 0
    have d1 := (g1).cell 1
    have d2 := (g1).cell 2
    have d3 := (g1).cell 3
    have d4 := (g1).cell 4
    have d5 := (g1).cell 5
    simp only [List.getElem?_cons_zero, List.getElem?_cons_succ] at d0 d1 d2 d3 d4 d5
    refine bodyPost_ret (v := .tuple #[.agg #[.int .i64 0, .int .i64 0, .int .i64 0, .int .i64 0, .int .i64 0, .int .i64 0], .bool false]) ?_ rfl ?_
    · simp [results, Tryd.results60, go_sem, d0, d1, d2, d3, d4, d5]
    · exact hR'.out _ _ ⟨⟨0, 0, 0, 0, 0, 0⟩, rfl, g2⟩
  · have g0 : decide (docs < 1) = false := decide_eq_false q0
    by_cases q1 : docs > 64
    · have g1 : decide (docs > 64) = true := decide_eq_true q1
      clear h
      go_enter Tryd.func60, Tryd.ntmps60
      go_upto_if 45 with fail
      refine wp_gen (fun W => Blk W w.heap.size [.int .i64 docs, .int .i64 terms, .int .i64 s0, .int .i64 s1, .int .i64 s2, .int .i64 s3, .int .i64 book, .int .i64 room, kk, bb] ∧ Blk W (w.heap.size + 1) [.int .i64 0, .int .i64 0, .int .i64 0, .int .i64 0, .int .i64 0, .int .i64 0] ∧
        Blk W (w.heap.size + 1 + 1) [.int .i64 0, .int .i64 0, .int .i64 0, .int .i64 0, .int .i64 0, .int .i64 0] ∧ Keeps (· < w.heap.size) w W) ⟨?_, ?_, ?_, ?_⟩ ?_
      · repeat (first | with_reducible assumption | with_reducible exact Blk.new _ _ _ | with_reducible refine Blk.drew ?_ | with_reducible refine Blk.drewN ?_ _ | with_reducible refine Blk.set_ne ?_ _ ?_ | (with_reducible refine Blk.new' _ _ _ ?_; focus (simp; done)) | with_reducible refine Blk.alloc ?_ _)
        all_goals (first | assumption | (simp; done) | (simp; omega))
      · repeat (first | with_reducible assumption | with_reducible exact Blk.new _ _ _ | with_reducible refine Blk.drew ?_ | with_reducible refine Blk.drewN ?_ _ | with_reducible refine Blk.set_ne ?_ _ ?_ | (with_reducible refine Blk.new' _ _ _ ?_; focus (simp; done)) | with_reducible refine Blk.alloc ?_ _)
        all_goals (first | assumption | (simp; done) | (simp; omega))
      · repeat (first | with_reducible assumption | with_reducible exact Blk.new _ _ _ | with_reducible refine Blk.drew ?_ | with_reducible refine Blk.drewN ?_ _ | with_reducible refine BlkN.set1 ?_ _ | with_reducible refine BlkN.set6 ?_ _ _ _ _ _ _ | with_reducible exact BlkN.of1 (by with_reducible assumption) | with_reducible exact BlkN.of6 (by with_reducible assumption) | with_reducible refine BlkN.drew ?_ | with_reducible refine BlkN.drewN ?_ _ | with_reducible refine BlkN.set_ne ?_ _ ?_ | with_reducible refine BlkN.alloc ?_ _ | with_reducible refine Blk.set_ne ?_ _ ?_ | (with_reducible refine Blk.new' _ _ _ ?_; focus (simp; done)) | with_reducible refine Blk.alloc ?_ _)
        all_goals (first | assumption | (simp; done) | (simp; omega))
      · repeat (first | with_reducible assumption | with_reducible exact Keeps.refl _ _ | with_reducible refine Keeps.drew ?_ | with_reducible refine Keeps.drewN ?_ _ | with_reducible refine Keeps.setCell ?_ ?_ _ | with_reducible refine Keeps.alloc ?_ ?_ _)
        all_goals (first | (simp; done) | (simp; omega) | (intro b hb; first | exact hb | omega | (simp; omega) | (simp only [World.size_alloc]; omega)))
      rintro W ⟨hB0, hB1, hB2, hk⟩
      generalize hb : w.heap.size = b at *
      have Hb := hid hb
      clear hb
      have d0 := (hB1).cell 0
      have d1 := (hB1).cell 1
      have d2 := (hB1).cell 2
      have d3 := (hB1).cell 3
      have d4 := (hB1).cell 4
      have d5 := (hB1).cell 5
      simp only [List.getElem?_cons_zero, List.getElem?_cons_succ] at d0 d1 d2 d3 d4 d5
      have z0 := (hB2).cell 0
      have z1 := (hB2).cell 1
      have z2 := (hB2).cell 2
      have z3 := (hB2).cell 3
      have z4 := (hB2).cell 4
      have z5 := (hB2).cell 5
      simp only [List.getElem?_cons_zero, List.getElem?_cons_succ] at z0 z1 z2 z3 z4 z5
      have f1 := hB1.free
      go_wp2_with fail
      refine bp_gen (fun W => Blk W (b + 1) [.int .i64 0, .int .i64 0, .int .i64 0, .int .i64 0, .int .i64 0, .int .i64 0] ∧ Keeps (· < b) w W) ⟨?_, ?_⟩ ?_
      · first | with_reducible exact Blk.set6 hB1 _ _ _ _ _ _ (by simp) | with_reducible exact (Blk.set6 hB1 _ _ _ _ _ _ (by simp)).drew
      · repeat (first | with_reducible assumption | with_reducible exact Keeps.refl _ _ | with_reducible refine Keeps.drew ?_ | with_reducible refine Keeps.drewN ?_ _ | with_reducible refine Keeps.setCell ?_ ?_ _ | with_reducible refine Keeps.alloc ?_ ?_ _)
        all_goals (first | (simp; done) | (simp; omega) | (intro b hb; first | exact hb | omega | (simp; omega) | (simp only [World.size_alloc]; omega)))
      clear z0 z1 z2 z3 z4 z5 d0 d1 d2 d3 d4 d5 f1 hB0 hB1 hB2 hk
      rintro W2 ⟨g1, g2⟩
      have d0 := (g1).cell 0
      have d1 := (g1).cell 1
      have d2 := (g1).cell 2
      have d3 := (g1).cell 3
      have d4 := (g1).cell 4
      have d5 := (g1).cell 5
      simp only [List.getElem?_cons_zero, List.getElem?_cons_succ] at d0 d1 d2 d3 d4 d5
      refine bodyPost_ret (v := .tuple #[.agg #[.int .i64 0, .int .i64 0, .int .i64 0, .int .i64 0, .int .i64 0, .int .i64 0], .bool false]) ?_ rfl ?_
      · simp [results, Tryd.results60, go_sem, d0, d1, d2, d3, d4, d5]
      · exact hR'.out _ _ ⟨⟨0, 0, 0, 0, 0, 0⟩, rfl, g2⟩
    · have g1 : decide (docs > 64) = false := decide_eq_false q1
      by_cases q2 : terms < 64
      · have g2 : decide (terms < 64) = true := decide_eq_true q2
        clear h
        go_enter Tryd.func60, Tryd.ntmps60
        go_upto_if 45 with fail
        refine wp_gen (fun W => Blk W w.heap.size [.int .i64 docs, .int .i64 terms, .int .i64 s0, .int .i64 s1, .int .i64 s2, .int .i64 s3, .int .i64 book, .int .i64 room, kk, bb] ∧ Blk W (w.heap.size + 1) [.int .i64 0, .int .i64 0, .int .i64 0, .int .i64 0, .int .i64 0, .int .i64 0] ∧
          Blk W (w.heap.size + 1 + 1) [.int .i64 0, .int .i64 0, .int .i64 0, .int .i64 0, .int .i64 0, .int .i64 0] ∧ Keeps (· < w.heap.size) w W) ⟨?_, ?_, ?_, ?_⟩ ?_
        · repeat (first | with_reducible assumption | with_reducible exact Blk.new _ _ _ | with_reducible refine Blk.drew ?_ | with_reducible refine Blk.drewN ?_ _ | with_reducible refine Blk.set_ne ?_ _ ?_ | (with_reducible refine Blk.new' _ _ _ ?_; focus (simp; done)) | with_reducible refine Blk.alloc ?_ _)
          all_goals (first | assumption | (simp; done) | (simp; omega))
        · repeat (first | with_reducible assumption | with_reducible exact Blk.new _ _ _ | with_reducible refine Blk.drew ?_ | with_reducible refine Blk.drewN ?_ _ | with_reducible refine Blk.set_ne ?_ _ ?_ | (with_reducible refine Blk.new' _ _ _ ?_; focus (simp; done)) | with_reducible refine Blk.alloc ?_ _)
          all_goals (first | assumption | (simp; done) | (simp; omega))
        · repeat (first | with_reducible assumption | with_reducible exact Blk.new _ _ _ | with_reducible refine Blk.drew ?_ | with_reducible refine Blk.drewN ?_ _ | with_reducible refine BlkN.set1 ?_ _ | with_reducible refine BlkN.set6 ?_ _ _ _ _ _ _ | with_reducible exact BlkN.of1 (by with_reducible assumption) | with_reducible exact BlkN.of6 (by with_reducible assumption) | with_reducible refine BlkN.drew ?_ | with_reducible refine BlkN.drewN ?_ _ | with_reducible refine BlkN.set_ne ?_ _ ?_ | with_reducible refine BlkN.alloc ?_ _ | with_reducible refine Blk.set_ne ?_ _ ?_ | (with_reducible refine Blk.new' _ _ _ ?_; focus (simp; done)) | with_reducible refine Blk.alloc ?_ _)
          all_goals (first | assumption | (simp; done) | (simp; omega))
        · repeat (first | with_reducible assumption | with_reducible exact Keeps.refl _ _ | with_reducible refine Keeps.drew ?_ | with_reducible refine Keeps.drewN ?_ _ | with_reducible refine Keeps.setCell ?_ ?_ _ | with_reducible refine Keeps.alloc ?_ ?_ _)
          all_goals (first | (simp; done) | (simp; omega) | (intro b hb; first | exact hb | omega | (simp; omega) | (simp only [World.size_alloc]; omega)))
        rintro W ⟨hB0, hB1, hB2, hk⟩
        generalize hb : w.heap.size = b at *
        have Hb := hid hb
        clear hb
        have d0 := (hB1).cell 0
        have d1 := (hB1).cell 1
        have d2 := (hB1).cell 2
        have d3 := (hB1).cell 3
        have d4 := (hB1).cell 4
        have d5 := (hB1).cell 5
        simp only [List.getElem?_cons_zero, List.getElem?_cons_succ] at d0 d1 d2 d3 d4 d5
        have z0 := (hB2).cell 0
        have z1 := (hB2).cell 1
        have z2 := (hB2).cell 2
        have z3 := (hB2).cell 3
        have z4 := (hB2).cell 4
        have z5 := (hB2).cell 5
        simp only [List.getElem?_cons_zero, List.getElem?_cons_succ] at z0 z1 z2 z3 z4 z5
        have f1 := hB1.free
        go_wp2_with fail
        refine bp_gen (fun W => Blk W (b + 1) [.int .i64 0, .int .i64 0, .int .i64 0, .int .i64 0, .int .i64 0, .int .i64 0] ∧ Keeps (· < b) w W) ⟨?_, ?_⟩ ?_
        · first | with_reducible exact Blk.set6 hB1 _ _ _ _ _ _ (by simp) | with_reducible exact (Blk.set6 hB1 _ _ _ _ _ _ (by simp)).drew
        · repeat (first | with_reducible assumption | with_reducible exact Keeps.refl _ _ | with_reducible refine Keeps.drew ?_ | with_reducible refine Keeps.drewN ?_ _ | with_reducible refine Keeps.setCell ?_ ?_ _ | with_reducible refine Keeps.alloc ?_ ?_ _)
          all_goals (first | (simp; done) | (simp; omega) | (intro b hb; first | exact hb | omega | (simp; omega) | (simp only [World.size_alloc]; omega)))
        clear z0 z1 z2 z3 z4 z5 d0 d1 d2 d3 d4 d5 f1 hB0 hB1 hB2 hk
        rintro W2 ⟨g1, g2⟩
        have d0 := (g1).cell 0
        have d1 := (g1).cell 1
        have d2 := (g1).cell 2
        have d3 := (g1).cell 3
        have d4 := (g1).cell 4
        have d5 := (g1).cell 5
        simp only [List.getElem?_cons_zero, List.getElem?_cons_succ] at d0 d1 d2 d3 d4 d5
        refine bodyPost_ret (v := .tuple #[.agg #[.int .i64 0, .int .i64 0, .int .i64 0, .int .i64 0, .int .i64 0, .int .i64 0], .bool false]) ?_ rfl ?_
        · simp [results, Tryd.results60, go_sem, d0, d1, d2, d3, d4, d5]
        · exact hR'.out _ _ ⟨⟨0, 0, 0, 0, 0, 0⟩, rfl, g2⟩
      · have g2 : decide (terms < 64) = false := decide_eq_false q2
        by_cases q3 : terms > 256
        · have g3 : decide (terms > 256) = true := decide_eq_true q3
          clear h
          go_enter Tryd.func60, Tryd.ntmps60
          go_upto_if 45 with fail
          refine wp_gen (fun W => Blk W w.heap.size [.int .i64 docs, .int .i64 terms, .int .i64 s0, .int .i64 s1, .int .i64 s2, .int .i64 s3, .int .i64 book, .int .i64 room, kk, bb] ∧ Blk W (w.heap.size + 1) [.int .i64 0, .int .i64 0, .int .i64 0, .int .i64 0, .int .i64 0, .int .i64 0] ∧
            Blk W (w.heap.size + 1 + 1) [.int .i64 0, .int .i64 0, .int .i64 0, .int .i64 0, .int .i64 0, .int .i64 0] ∧ Keeps (· < w.heap.size) w W) ⟨?_, ?_, ?_, ?_⟩ ?_
          · repeat (first | with_reducible assumption | with_reducible exact Blk.new _ _ _ | with_reducible refine Blk.drew ?_ | with_reducible refine Blk.drewN ?_ _ | with_reducible refine Blk.set_ne ?_ _ ?_ | (with_reducible refine Blk.new' _ _ _ ?_; focus (simp; done)) | with_reducible refine Blk.alloc ?_ _)
            all_goals (first | assumption | (simp; done) | (simp; omega))
          · repeat (first | with_reducible assumption | with_reducible exact Blk.new _ _ _ | with_reducible refine Blk.drew ?_ | with_reducible refine Blk.drewN ?_ _ | with_reducible refine Blk.set_ne ?_ _ ?_ | (with_reducible refine Blk.new' _ _ _ ?_; focus (simp; done)) | with_reducible refine Blk.alloc ?_ _)
            all_goals (first | assumption | (simp; done) | (simp; omega))
          · repeat (first | with_reducible assumption | with_reducible exact Blk.new _ _ _ | with_reducible refine Blk.drew ?_ | with_reducible refine Blk.drewN ?_ _ | with_reducible refine BlkN.set1 ?_ _ | with_reducible refine BlkN.set6 ?_ _ _ _ _ _ _ | with_reducible exact BlkN.of1 (by with_reducible assumption) | with_reducible exact BlkN.of6 (by with_reducible assumption) | with_reducible refine BlkN.drew ?_ | with_reducible refine BlkN.drewN ?_ _ | with_reducible refine BlkN.set_ne ?_ _ ?_ | with_reducible refine BlkN.alloc ?_ _ | with_reducible refine Blk.set_ne ?_ _ ?_ | (with_reducible refine Blk.new' _ _ _ ?_; focus (simp; done)) | with_reducible refine Blk.alloc ?_ _)
            all_goals (first | assumption | (simp; done) | (simp; omega))
          · repeat (first | with_reducible assumption | with_reducible exact Keeps.refl _ _ | with_reducible refine Keeps.drew ?_ | with_reducible refine Keeps.drewN ?_ _ | with_reducible refine Keeps.setCell ?_ ?_ _ | with_reducible refine Keeps.alloc ?_ ?_ _)
            all_goals (first | (simp; done) | (simp; omega) | (intro b hb; first | exact hb | omega | (simp; omega) | (simp only [World.size_alloc]; omega)))
          rintro W ⟨hB0, hB1, hB2, hk⟩
          generalize hb : w.heap.size = b at *
          have Hb := hid hb
          clear hb
          have d0 := (hB1).cell 0
          have d1 := (hB1).cell 1
          have d2 := (hB1).cell 2
          have d3 := (hB1).cell 3
          have d4 := (hB1).cell 4
          have d5 := (hB1).cell 5
          simp only [List.getElem?_cons_zero, List.getElem?_cons_succ] at d0 d1 d2 d3 d4 d5
          have z0 := (hB2).cell 0
          have z1 := (hB2).cell 1
          have z2 := (hB2).cell 2
          have z3 := (hB2).cell 3
          have z4 := (hB2).cell 4
          have z5 := (hB2).cell 5
          simp only [List.getElem?_cons_zero, List.getElem?_cons_succ] at z0 z1 z2 z3 z4 z5
          have f1 := hB1.free
          go_wp2_with fail
          refine bp_gen (fun W => Blk W (b + 1) [.int .i64 0, .int .i64 0, .int .i64 0, .int .i64 0, .int .i64 0, .int .i64 0] ∧ Keeps (· < b) w W) ⟨?_, ?_⟩ ?_
          · first | with_reducible exact Blk.set6 hB1 _ _ _ _ _ _ (by simp) | with_reducible exact (Blk.set6 hB1 _ _ _ _ _ _ (by simp)).drew
          · repeat (first | with_reducible assumption | with_reducible exact Keeps.refl _ _ | with_reducible refine Keeps.drew ?_ | with_reducible refine Keeps.drewN ?_ _ | with_reducible refine Keeps.setCell ?_ ?_ _ | with_reducible refine Keeps.alloc ?_ ?_ _)
            all_goals (first | (simp; done) | (simp; omega) | (intro b hb; first | exact hb | omega | (simp; omega) | (simp only [World.size_alloc]; omega)))
          clear z0 z1 z2 z3 z4 z5 d0 d1 d2 d3 d4 d5 f1 hB0 hB1 hB2 hk
          rintro W2 ⟨g1, g2⟩
          have d0 := (g1).cell 0
          have d1 := (g1).cell 1
          have d2 := (g1).cell 2
          have d3 := (g1).cell 3
          have d4 := (g1).cell 4
          have d5 := (g1).cell 5
          simp only [List.getElem?_cons_zero, List.getElem?_cons_succ] at d0 d1 d2 d3 d4 d5
          refine bodyPost_ret (v := .tuple #[.agg #[.int .i64 0, .int .i64 0, .int .i64 0, .int .i64 0, .int .i64 0, .int .i64 0], .bool false]) ?_ rfl ?_
          · simp [results, Tryd.results60, go_sem, d0, d1, d2, d3, d4, d5]
          · exact hR'.out _ _ ⟨⟨0, 0, 0, 0, 0, 0⟩, rfl, g2⟩
        · have g3 : decide (terms > 256) = false := decide_eq_false q3
          by_cases q4 : book < 0
          · have g4 : decide (book < 0) = true := decide_eq_true q4
            clear h
            go_enter Tryd.func60, Tryd.ntmps60
            go_upto_if 45 with fail
            refine wp_gen (fun W => Blk W w.heap.size [.int .i64 docs, .int .i64 terms, .int .i64 s0, .int .i64 s1, .int .i64 s2, .int .i64 s3, .int .i64 book, .int .i64 room, kk, bb] ∧ Blk W (w.heap.size + 1) [.int .i64 0, .int .i64 0, .int .i64 0, .int .i64 0, .int .i64 0, .int .i64 0] ∧
              Blk W (w.heap.size + 1 + 1) [.int .i64 0, .int .i64 0, .int .i64 0, .int .i64 0, .int .i64 0, .int .i64 0] ∧ Keeps (· < w.heap.size) w W) ⟨?_, ?_, ?_, ?_⟩ ?_
            · repeat (first | with_reducible assumption | with_reducible exact Blk.new _ _ _ | with_reducible refine Blk.drew ?_ | with_reducible refine Blk.drewN ?_ _ | with_reducible refine Blk.set_ne ?_ _ ?_ | (with_reducible refine Blk.new' _ _ _ ?_; focus (simp; done)) | with_reducible refine Blk.alloc ?_ _)
              all_goals (first | assumption | (simp; done) | (simp; omega))
            · repeat (first | with_reducible assumption | with_reducible exact Blk.new _ _ _ | with_reducible refine Blk.drew ?_ | with_reducible refine Blk.drewN ?_ _ | with_reducible refine Blk.set_ne ?_ _ ?_ | (with_reducible refine Blk.new' _ _ _ ?_; focus (simp; done)) | with_reducible refine Blk.alloc ?_ _)
              all_goals (first | assumption | (simp; done) | (simp; omega))
            · repeat (first | with_reducible assumption | with_reducible exact Blk.new _ _ _ | with_reducible refine Blk.drew ?_ | with_reducible refine Blk.drewN ?_ _ | with_reducible refine BlkN.set1 ?_ _ | with_reducible refine BlkN.set6 ?_ _ _ _ _ _ _ | with_reducible exact BlkN.of1 (by with_reducible assumption) | with_reducible exact BlkN.of6 (by with_reducible assumption) | with_reducible refine BlkN.drew ?_ | with_reducible refine BlkN.drewN ?_ _ | with_reducible refine BlkN.set_ne ?_ _ ?_ | with_reducible refine BlkN.alloc ?_ _ | with_reducible refine Blk.set_ne ?_ _ ?_ | (with_reducible refine Blk.new' _ _ _ ?_; focus (simp; done)) | with_reducible refine Blk.alloc ?_ _)
              all_goals (first | assumption | (simp; done) | (simp; omega))
            · repeat (first | with_reducible assumption | with_reducible exact Keeps.refl _ _ | with_reducible refine Keeps.drew ?_ | with_reducible refine Keeps.drewN ?_ _ | with_reducible refine Keeps.setCell ?_ ?_ _ | with_reducible refine Keeps.alloc ?_ ?_ _)
              all_goals (first | (simp; done) | (simp; omega) | (intro b hb; first | exact hb | omega | (simp; omega) | (simp only [World.size_alloc]; omega)))
            rintro W ⟨hB0, hB1, hB2, hk⟩
            generalize hb : w.heap.size = b at *
            have Hb := hid hb
            clear hb
            have d0 := (hB1).cell 0
            have d1 := (hB1).cell 1
            have d2 := (hB1).cell 2
            have d3 := (hB1).cell 3
            have d4 := (hB1).cell 4
            have d5 := (hB1).cell 5
            simp only [List.getElem?_cons_zero, List.getElem?_cons_succ] at d0 d1 d2 d3 d4 d5
            have z0 := (hB2).cell 0
            have z1 := (hB2).cell 1
            have z2 := (hB2).cell 2
            have z3 := (hB2).cell 3
            have z4 := (hB2).cell 4
            have z5 := (hB2).cell 5
            simp only [List.getElem?_cons_zero, List.getElem?_cons_succ] at z0 z1 z2 z3 z4 z5
            have f1 := hB1.free
            go_wp2_with fail
            refine bp_gen (fun W => Blk W (b + 1) [.int .i64 0, .int .i64 0, .int .i64 0, .int .i64 0, .int .i64 0, .int .i64 0] ∧ Keeps (· < b) w W) ⟨?_, ?_⟩ ?_
            · first | with_reducible exact Blk.set6 hB1 _ _ _ _ _ _ (by simp) | with_reducible exact (Blk.set6 hB1 _ _ _ _ _ _ (by simp)).drew
            · repeat (first | with_reducible assumption | with_reducible exact Keeps.refl _ _ | with_reducible refine Keeps.drew ?_ | with_reducible refine Keeps.drewN ?_ _ | with_reducible refine Keeps.setCell ?_ ?_ _ | with_reducible refine Keeps.alloc ?_ ?_ _)
              all_goals (first | (simp; done) | (simp; omega) | (intro b hb; first | exact hb | omega | (simp; omega) | (simp only [World.size_alloc]; omega)))
            clear z0 z1 z2 z3 z4 z5 d0 d1 d2 d3 d4 d5 f1 hB0 hB1 hB2 hk
            rintro W2 ⟨g1, g2⟩
            have d0 := (g1).cell 0
            have d1 := (g1).cell 1
            have d2 := (g1).cell 2
            have d3 := (g1).cell 3
            have d4 := (g1).cell 4
            have d5 := (g1).cell 5
            simp only [List.getElem?_cons_zero, List.getElem?_cons_succ] at d0 d1 d2 d3 d4 d5
            refine bodyPost_ret (v := .tuple #[.agg #[.int .i64 0, .int .i64 0, .int .i64 0, .int .i64 0, .int .i64 0, .int .i64 0], .bool false]) ?_ rfl ?_
            · simp [results, Tryd.results60, go_sem, d0, d1, d2, d3, d4, d5]
            · exact hR'.out _ _ ⟨⟨0, 0, 0, 0, 0, 0⟩, rfl, g2⟩
          · have g4 : decide (book < 0) = false := decide_eq_false q4
            by_cases q5 : book > 65536
            · have g5 : decide (book > 65536) = true := decide_eq_true q5
              clear h
              go_enter Tryd.func60, Tryd.ntmps60
              go_upto_if 45 with fail
              refine wp_gen (fun W => Blk W w.heap.size [.int .i64 docs, .int .i64 terms, .int .i64 s0, .int .i64 s1, .int .i64 s2, .int .i64 s3, .int .i64 book, .int .i64 room, kk, bb] ∧ Blk W (w.heap.size + 1) [.int .i64 0, .int .i64 0, .int .i64 0, .int .i64 0, .int .i64 0, .int .i64 0] ∧
                Blk W (w.heap.size + 1 + 1) [.int .i64 0, .int .i64 0, .int .i64 0, .int .i64 0, .int .i64 0, .int .i64 0] ∧ Keeps (· < w.heap.size) w W) ⟨?_, ?_, ?_, ?_⟩ ?_
              · repeat (first | with_reducible assumption | with_reducible exact Blk.new _ _ _ | with_reducible refine Blk.drew ?_ | with_reducible refine Blk.drewN ?_ _ | with_reducible refine Blk.set_ne ?_ _ ?_ | (with_reducible refine Blk.new' _ _ _ ?_; focus (simp; done)) | with_reducible refine Blk.alloc ?_ _)
                all_goals (first | assumption | (simp; done) | (simp; omega))
              · repeat (first | with_reducible assumption | with_reducible exact Blk.new _ _ _ | with_reducible refine Blk.drew ?_ | with_reducible refine Blk.drewN ?_ _ | with_reducible refine Blk.set_ne ?_ _ ?_ | (with_reducible refine Blk.new' _ _ _ ?_; focus (simp; done)) | with_reducible refine Blk.alloc ?_ _)
                all_goals (first | assumption | (simp; done) | (simp; omega))
              · repeat (first | with_reducible assumption | with_reducible exact Blk.new _ _ _ | with_reducible refine Blk.drew ?_ | with_reducible refine Blk.drewN ?_ _ | with_reducible refine BlkN.set1 ?_ _ | with_reducible refine BlkN.set6 ?_ _ _ _ _ _ _ | with_reducible exact BlkN.of1 (by with_reducible assumption) | with_reducible exact BlkN.of6 (by with_reducible assumption) | with_reducible refine BlkN.drew ?_ | with_reducible refine BlkN.drewN ?_ _ | with_reducible refine BlkN.set_ne ?_ _ ?_ | with_reducible refine BlkN.alloc ?_ _ | with_reducible refine Blk.set_ne ?_ _ ?_ | (with_reducible refine Blk.new' _ _ _ ?_; focus (simp; done)) | with_reducible refine Blk.alloc ?_ _)
                all_goals (first | assumption | (simp; done) | (simp; omega))
              · repeat (first | with_reducible assumption | with_reducible exact Keeps.refl _ _ | with_reducible refine Keeps.drew ?_ | with_reducible refine Keeps.drewN ?_ _ | with_reducible refine Keeps.setCell ?_ ?_ _ | with_reducible refine Keeps.alloc ?_ ?_ _)
                all_goals (first | (simp; done) | (simp; omega) | (intro b hb; first | exact hb | omega | (simp; omega) | (simp only [World.size_alloc]; omega)))
              rintro W ⟨hB0, hB1, hB2, hk⟩
              generalize hb : w.heap.size = b at *
              have Hb := hid hb
              clear hb
              have d0 := (hB1).cell 0
              have d1 := (hB1).cell 1
              have d2 := (hB1).cell 2
              have d3 := (hB1).cell 3
              have d4 := (hB1).cell 4
              have d5 := (hB1).cell 5
              simp only [List.getElem?_cons_zero, List.getElem?_cons_succ] at d0 d1 d2 d3 d4 d5
              have z0 := (hB2).cell 0
              have z1 := (hB2).cell 1
              have z2 := (hB2).cell 2
              have z3 := (hB2).cell 3
              have z4 := (hB2).cell 4
              have z5 := (hB2).cell 5
              simp only [List.getElem?_cons_zero, List.getElem?_cons_succ] at z0 z1 z2 z3 z4 z5
              have f1 := hB1.free
              go_wp2_with fail
              refine bp_gen (fun W => Blk W (b + 1) [.int .i64 0, .int .i64 0, .int .i64 0, .int .i64 0, .int .i64 0, .int .i64 0] ∧ Keeps (· < b) w W) ⟨?_, ?_⟩ ?_
              · first | with_reducible exact Blk.set6 hB1 _ _ _ _ _ _ (by simp) | with_reducible exact (Blk.set6 hB1 _ _ _ _ _ _ (by simp)).drew
              · repeat (first | with_reducible assumption | with_reducible exact Keeps.refl _ _ | with_reducible refine Keeps.drew ?_ | with_reducible refine Keeps.drewN ?_ _ | with_reducible refine Keeps.setCell ?_ ?_ _ | with_reducible refine Keeps.alloc ?_ ?_ _)
                all_goals (first | (simp; done) | (simp; omega) | (intro b hb; first | exact hb | omega | (simp; omega) | (simp only [World.size_alloc]; omega)))
              clear z0 z1 z2 z3 z4 z5 d0 d1 d2 d3 d4 d5 f1 hB0 hB1 hB2 hk
              rintro W2 ⟨g1, g2⟩
              have d0 := (g1).cell 0
              have d1 := (g1).cell 1
              have d2 := (g1).cell 2
              have d3 := (g1).cell 3
              have d4 := (g1).cell 4
              have d5 := (g1).cell 5
              simp only [List.getElem?_cons_zero, List.getElem?_cons_succ] at d0 d1 d2 d3 d4 d5
              refine bodyPost_ret (v := .tuple #[.agg #[.int .i64 0, .int .i64 0, .int .i64 0, .int .i64 0, .int .i64 0, .int .i64 0], .bool false]) ?_ rfl ?_
              · simp [results, Tryd.results60, go_sem, d0, d1, d2, d3, d4, d5]
              · exact hR'.out _ _ ⟨⟨0, 0, 0, 0, 0, 0⟩, rfl, g2⟩
            · have g5 : decide (book > 65536) = false := decide_eq_false q5
              by_cases q6 : room < 0
              · have g6 : decide (room < 0) = true := decide_eq_true q6
                clear h
                go_enter Tryd.func60, Tryd.ntmps60
                go_upto_if 45 with fail
                refine wp_gen (fun W => Blk W w.heap.size [.int .i64 docs, .int .i64 terms, .int .i64 s0, .int .i64 s1, .int .i64 s2, .int .i64 s3, .int .i64 book, .int .i64 room, kk, bb] ∧ Blk W (w.heap.size + 1) [.int .i64 0, .int .i64 0, .int .i64 0, .int .i64 0, .int .i64 0, .int .i64 0] ∧
                  Blk W (w.heap.size + 1 + 1) [.int .i64 0, .int .i64 0, .int .i64 0, .int .i64 0, .int .i64 0, .int .i64 0] ∧ Keeps (· < w.heap.size) w W) ⟨?_, ?_, ?_, ?_⟩ ?_
                · repeat (first | with_reducible assumption | with_reducible exact Blk.new _ _ _ | with_reducible refine Blk.drew ?_ | with_reducible refine Blk.drewN ?_ _ | with_reducible refine Blk.set_ne ?_ _ ?_ | (with_reducible refine Blk.new' _ _ _ ?_; focus (simp; done)) | with_reducible refine Blk.alloc ?_ _)
                  all_goals (first | assumption | (simp; done) | (simp; omega))
                · repeat (first | with_reducible assumption | with_reducible exact Blk.new _ _ _ | with_reducible refine Blk.drew ?_ | with_reducible refine Blk.drewN ?_ _ | with_reducible refine Blk.set_ne ?_ _ ?_ | (with_reducible refine Blk.new' _ _ _ ?_; focus (simp; done)) | with_reducible refine Blk.alloc ?_ _)
                  all_goals (first | assumption | (simp; done) | (simp; omega))
                · repeat (first | with_reducible assumption | with_reducible exact Blk.new _ _ _ | with_reducible refine Blk.drew ?_ | with_reducible refine Blk.drewN ?_ _ | with_reducible refine BlkN.set1 ?_ _ | with_reducible refine BlkN.set6 ?_ _ _ _ _ _ _ | with_reducible exact BlkN.of1 (by with_reducible assumption) | with_reducible exact BlkN.of6 (by with_reducible assumption) | with_reducible refine BlkN.drew ?_ | with_reducible refine BlkN.drewN ?_ _ | with_reducible refine BlkN.set_ne ?_ _ ?_ | with_reducible refine BlkN.alloc ?_ _ | with_reducible refine Blk.set_ne ?_ _ ?_ | (with_reducible refine Blk.new' _ _ _ ?_; focus (simp; done)) | with_reducible refine Blk.alloc ?_ _)
                  all_goals (first | assumption | (simp; done) | (simp; omega))
                · repeat (first | with_reducible assumption | with_reducible exact Keeps.refl _ _ | with_reducible refine Keeps.drew ?_ | with_reducible refine Keeps.drewN ?_ _ | with_reducible refine Keeps.setCell ?_ ?_ _ | with_reducible refine Keeps.alloc ?_ ?_ _)
                  all_goals (first | (simp; done) | (simp; omega) | (intro b hb; first | exact hb | omega | (simp; omega) | (simp only [World.size_alloc]; omega)))
                rintro W ⟨hB0, hB1, hB2, hk⟩
                generalize hb : w.heap.size = b at *
                have Hb := hid hb
                clear hb
                have d0 := (hB1).cell 0
                have d1 := (hB1).cell 1
                have d2 := (hB1).cell 2
                have d3 := (hB1).cell 3
                have d4 := (hB1).cell 4
                have d5 := (hB1).cell 5
                simp only [List.getElem?_cons_zero, List.getElem?_cons_succ] at d0 d1 d2 d3 d4 d5
                have z0 := (hB2).cell 0
                have z1 := (hB2).cell 1
                have z2 := (hB2).cell 2
                have z3 := (hB2).cell 3
                have z4 := (hB2).cell 4
                have z5 := (hB2).cell 5
                simp only [List.getElem?_cons_zero, List.getElem?_cons_succ] at z0 z1 z2 z3 z4 z5
                have f1 := hB1.free
                go_wp2_with fail
                refine bp_gen (fun W => Blk W (b + 1) [.int .i64 0, .int .i64 0, .int .i64 0, .int .i64 0, .int .i64 0, .int .i64 0] ∧ Keeps (· < b) w W) ⟨?_, ?_⟩ ?_
                · first | with_reducible exact Blk.set6 hB1 _ _ _ _ _ _ (by simp) | with_reducible exact (Blk.set6 hB1 _ _ _ _ _ _ (by simp)).drew
                · repeat (first | with_reducible assumption | with_reducible exact Keeps.refl _ _ | with_reducible refine Keeps.drew ?_ | with_reducible refine Keeps.drewN ?_ _ | with_reducible refine Keeps.setCell ?_ ?_ _ | with_reducible refine Keeps.alloc ?_ ?_ _)
                  all_goals (first | (simp; done) | (simp; omega) | (intro b hb; first | exact hb | omega | (simp; omega) | (simp only [World.size_alloc]; omega)))
                clear z0 z1 z2 z3 z4 z5 d0 d1 d2 d3 d4 d5 f1 hB0 hB1 hB2 hk
                rintro W2 ⟨g1, g2⟩
                have d0 := (g1).cell 0
                have d1 := (g1).cell 1
                have d2 := (g1).cell 2
                have d3 := (g1).cell 3
                have d4 := (g1).cell 4
                have d5 := (g1).cell 5
                simp only [List.getElem?_cons_zero, List.getElem?_cons_succ] at d0 d1 d2 d3 d4 d5
                refine bodyPost_ret (v := .tuple #[.agg #[.int .i64 0, .int .i64 0, .int .i64 0, .int .i64 0, .int .i64 0, .int .i64 0], .bool false]) ?_ rfl ?_
                · simp [results, Tryd.results60, go_sem, d0, d1, d2, d3, d4, d5]
                · exact hR'.out _ _ ⟨⟨0, 0, 0, 0, 0, 0⟩, rfl, g2⟩
              · have g6 : decide (room < 0) = false := decide_eq_false q6
                by_cases q7 : room > 65536
                · have g7 : decide (room > 65536) = true := decide_eq_true q7
                  clear h
                  go_enter Tryd.func60, Tryd.ntmps60
                  go_upto_if 45 with fail
                  refine wp_gen (fun W => Blk W w.heap.size [.int .i64 docs, .int .i64 terms, .int .i64 s0, .int .i64 s1, .int .i64 s2, .int .i64 s3, .int .i64 book, .int .i64 room, kk, bb] ∧ Blk W (w.heap.size + 1) [.int .i64 0, .int .i64 0, .int .i64 0, .int .i64 0, .int .i64 0, .int .i64 0] ∧
                    Blk W (w.heap.size + 1 + 1) [.int .i64 0, .int .i64 0, .int .i64 0, .int .i64 0, .int .i64 0, .int .i64 0] ∧ Keeps (· < w.heap.size) w W) ⟨?_, ?_, ?_, ?_⟩ ?_
                  · repeat (first | with_reducible assumption | with_reducible exact Blk.new _ _ _ | with_reducible refine Blk.drew ?_ | with_reducible refine Blk.drewN ?_ _ | with_reducible refine Blk.set_ne ?_ _ ?_ | (with_reducible refine Blk.new' _ _ _ ?_; focus (simp; done)) | with_reducible refine Blk.alloc ?_ _)
                    all_goals (first | assumption | (simp; done) | (simp; omega))
                  · repeat (first | with_reducible assumption | with_reducible exact Blk.new _ _ _ | with_reducible refine Blk.drew ?_ | with_reducible refine Blk.drewN ?_ _ | with_reducible refine Blk.set_ne ?_ _ ?_ | (with_reducible refine Blk.new' _ _ _ ?_; focus (simp; done)) | with_reducible refine Blk.alloc ?_ _)
                    all_goals (first | assumption | (simp; done) | (simp; omega))
                  · repeat (first | with_reducible assumption | with_reducible exact Blk.new _ _ _ | with_reducible refine Blk.drew ?_ | with_reducible refine Blk.drewN ?_ _ | with_reducible refine BlkN.set1 ?_ _ | with_reducible refine BlkN.set6 ?_ _ _ _ _ _ _ | with_reducible exact BlkN.of1 (by with_reducible assumption) | with_reducible exact BlkN.of6 (by with_reducible assumption) | with_reducible refine BlkN.drew ?_ | with_reducible refine BlkN.drewN ?_ _ | with_reducible refine BlkN.set_ne ?_ _ ?_ | with_reducible refine BlkN.alloc ?_ _ | with_reducible refine Blk.set_ne ?_ _ ?_ | (with_reducible refine Blk.new' _ _ _ ?_; focus (simp; done)) | with_reducible refine Blk.alloc ?_ _)
                    all_goals (first | assumption | (simp; done) | (simp; omega))
                  · repeat (first | with_reducible assumption | with_reducible exact Keeps.refl _ _ | with_reducible refine Keeps.drew ?_ | with_reducible refine Keeps.drewN ?_ _ | with_reducible refine Keeps.setCell ?_ ?_ _ | with_reducible refine Keeps.alloc ?_ ?_ _)
                    all_goals (first | (simp; done) | (simp; omega) | (intro b hb; first | exact hb | omega | (simp; omega) | (simp only [World.size_alloc]; omega)))
                  rintro W ⟨hB0, hB1, hB2, hk⟩
                  generalize hb : w.heap.size = b at *
                  have Hb := hid hb
                  clear hb
                  have d0 := (hB1).cell 0
                  have d1 := (hB1).cell 1
                  have d2 := (hB1).cell 2
                  have d3 := (hB1).cell 3
                  have d4 := (hB1).cell 4
                  have d5 := (hB1).cell 5
                  simp only [List.getElem?_cons_zero, List.getElem?_cons_succ] at d0 d1 d2 d3 d4 d5
                  have z0 := (hB2).cell 0
                  have z1 := (hB2).cell 1
                  have z2 := (hB2).cell 2
                  have z3 := (hB2).cell 3
                  have z4 := (hB2).cell 4
                  have z5 := (hB2).cell 5
                  simp only [List.getElem?_cons_zero, List.getElem?_cons_succ] at z0 z1 z2 z3 z4 z5
                  have f1 := hB1.free
                  go_wp2_with fail
                  refine bp_gen (fun W => Blk W (b + 1) [.int .i64 0, .int .i64 0, .int .i64 0, .int .i64 0, .int .i64 0, .int .i64 0] ∧ Keeps (· < b) w W) ⟨?_, ?_⟩ ?_
                  · first | with_reducible exact Blk.set6 hB1 _ _ _ _ _ _ (by simp) | with_reducible exact (Blk.set6 hB1 _ _ _ _ _ _ (by simp)).drew
                  · repeat (first | with_reducible assumption | with_reducible exact Keeps.refl _ _ | with_reducible refine Keeps.drew ?_ | with_reducible refine Keeps.drewN ?_ _ | with_reducible refine Keeps.setCell ?_ ?_ _ | with_reducible refine Keeps.alloc ?_ ?_ _)
                    all_goals (first | (simp; done) | (simp; omega) | (intro b hb; first | exact hb | omega | (simp; omega) | (simp only [World.size_alloc]; omega)))
                  clear z0 z1 z2 z3 z4 z5 d0 d1 d2 d3 d4 d5 f1 hB0 hB1 hB2 hk
                  rintro W2 ⟨g1, g2⟩
                  have d0 := (g1).cell 0
                  have d1 := (g1).cell 1
                  have d2 := (g1).cell 2
                  have d3 := (g1).cell 3
                  have d4 := (g1).cell 4
                  have d5 := (g1).cell 5
                  simp only [List.getElem?_cons_zero, List.getElem?_cons_succ] at d0 d1 d2 d3 d4 d5
                  refine bodyPost_ret (v := .tuple #[.agg #[.int .i64 0, .int .i64 0, .int .i64 0, .int .i64 0, .int .i64 0, .int .i64 0], .bool false]) ?_ rfl ?_
                  · simp [results, Tryd.results60, go_sem, d0, d1, d2, d3, d4, d5]
                  · exact hR'.out _ _ ⟨⟨0, 0, 0, 0, 0, 0⟩, rfl, g2⟩
                · have g7 : decide (room > 65536) = false := decide_eq_false q7
                  omega
end Go.Proofs.YtbmgmjfpoepgpaaDoor
