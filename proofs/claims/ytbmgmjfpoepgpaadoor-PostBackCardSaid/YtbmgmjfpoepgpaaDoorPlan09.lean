/- Layer 9's statements: plan. -/
import Derived.Test.YtbmgmjfpoepgpaaDoorLayH
import Derived.Test.YtbmgmjfpoepgpaaDoorPutX
namespace Go.Proofs.YtbmgmjfpoepgpaaDoor
open Go.RowKit

def ZP : List Value := [.int .i64 0, .int .i64 0, .int .i64 0, .int .i64 0, .int .i64 0, .int .i64 0, .int .i64 0, .int .i64 0, .int .i64 0, .int .i64 0, .int .i64 0, .int .i64 0, .int .i64 0, .int .i64 0, .int .i64 0]
set_option maxRecDepth 100000 in
set_option maxHeartbeats 2000000 in
theorem plan_gen (c : ConfM) (p : PlanM) (e : Int) (w : World)
    (hlay : ∀ w, Calls Tryd.prog 33 #[.agg c.list.toArray] w fun e' w' => e' = .returned (.tuple #[p.val, .int .i64 e]) ∧ Keeps (· < w.heap.size) w w') :
    Calls Tryd.prog 9 #[.agg c.list.toArray] w fun e' w' => e' = .returned (.tuple #[p.val, .bool (decide (e = 0 ∧ p.cells ≤ 9000))]) ∧ Keeps (· < w.heap.size) w w' := by
  obtain ⟨docs, terms, s0, s1, s2, s3, book, room, kk, bb⟩ := c
  unfold ConfM.list at *
  have HL := hid hlay
  clear hlay
  obtain ⟨⟨p0, p1, p2, p3, p4, p5⟩, ⟨p6, p7, p8, p9, p10, p11⟩, p12, p13, p14⟩ := p
  unfold PlanM.val at *
  simp only at HL ⊢
  refine calls_hide fun R' hR' => ?_
  go_enter Tryd.func9, Tryd.ntmps9
  go_wp2_with fail
  refine calls_gen (fun W => Blk W (w.heap.size + 1) ZP ∧ Keeps (· < w.heap.size) w W) ⟨?_, ?_⟩ ?_
  · unfold ZP
    repeat (first | with_reducible assumption | with_reducible exact Blk.new _ _ _ | with_reducible refine Blk.drew ?_ | with_reducible refine Blk.drewN ?_ _ | with_reducible refine Blk.set_ne ?_ _ ?_ | (with_reducible refine Blk.new' _ _ _ ?_; focus (simp; done)) | with_reducible refine Blk.alloc ?_ _)
    all_goals (first | assumption | (simp; done) | (simp; omega))
  · repeat (first | with_reducible assumption | with_reducible exact Keeps.refl _ _ | with_reducible refine Keeps.drew ?_ | with_reducible refine Keeps.drewN ?_ _ | with_reducible refine Keeps.setCell ?_ ?_ _ | with_reducible refine Keeps.alloc ?_ ?_ _)
    all_goals (first | (simp; done) | (simp; omega) | (intro b hb; first | exact hb | omega | (simp; omega) | (simp only [World.size_alloc]; omega)))
  rintro W ⟨hB1, hk⟩
  refine (HL.out W).mono ?_
  rintro e' w1 ⟨rfl, hk1⟩
  have hC1 := hB1.keep hk1 hB1.lt
  have hkk := hk.trans (hk1.mono fun b hb => by have := hB1.lt; omega)
  have hlb : w.heap.size + 1 < w1.heap.size := hC1.lt
  clear hB1 hk hk1
  unfold ZP at hC1
  go_wp2_with fail
  refine wp_gen (fun W => Blk W (w.heap.size + 1) ZP ∧ Blk W w1.heap.size [.int .i64 p0, .int .i64 p1, .int .i64 p2, .int .i64 p3, .int .i64 p4, .int .i64 p5, .int .i64 p6, .int .i64 p7, .int .i64 p8, .int .i64 p9, .int .i64 p10, .int .i64 p11, .int .i64 p12, .int .i64 p13, .int .i64 p14] ∧ Keeps (· < w.heap.size) w W) ⟨?_, ?_, ?_⟩ ?_
  · unfold ZP
    repeat (first | with_reducible assumption | with_reducible exact Blk.new _ _ _ | with_reducible refine Blk.drew ?_ | with_reducible refine Blk.drewN ?_ _ | with_reducible refine Blk.set_ne ?_ _ ?_ | (with_reducible refine Blk.new' _ _ _ ?_; focus (simp; done)) | with_reducible refine Blk.alloc ?_ _)
    all_goals (first | assumption | (simp; done) | (simp; omega))
  · repeat (first | with_reducible assumption | with_reducible exact Blk.new _ _ _ | with_reducible refine Blk.drew ?_ | with_reducible refine Blk.drewN ?_ _ | with_reducible refine Blk.set_ne ?_ _ ?_ | (with_reducible refine Blk.new' _ _ _ ?_; focus (simp; done)) | with_reducible refine Blk.alloc ?_ _)
    all_goals (first | assumption | (simp; done) | (simp; omega))
  · repeat (first | with_reducible assumption | with_reducible exact Keeps.refl _ _ | with_reducible refine Keeps.drew ?_ | with_reducible refine Keeps.drewN ?_ _ | with_reducible refine Keeps.setCell ?_ ?_ _ | with_reducible refine Keeps.alloc ?_ ?_ _)
    all_goals (first | (simp; done) | (simp; omega) | (intro b hb; first | exact hb | omega | (simp; omega) | (simp only [World.size_alloc]; omega)))
  generalize w1.heap.size = B4 at *
  clear hC1 hkk
  rintro W2 ⟨hC1, hC4, hkk⟩
  unfold ZP at hC1
  have f1 := hC1.free
  have z0 := (hC1).cell 0
  have z1 := (hC1).cell 1
  have z2 := (hC1).cell 2
  have z3 := (hC1).cell 3
  have z4 := (hC1).cell 4
  have z5 := (hC1).cell 5
  have z6 := (hC1).cell 6
  have z7 := (hC1).cell 7
  have z8 := (hC1).cell 8
  have z9 := (hC1).cell 9
  have z10 := (hC1).cell 10
  have z11 := (hC1).cell 11
  have z12 := (hC1).cell 12
  have z13 := (hC1).cell 13
  have z14 := (hC1).cell 14
  simp only [List.getElem?_cons_zero, List.getElem?_cons_succ] at z0 z1 z2 z3 z4 z5 z6 z7 z8 z9 z10 z11 z12 z13 z14
  have d0 := (hC4).cell 0
  have d1 := (hC4).cell 1
  have d2 := (hC4).cell 2
  have d3 := (hC4).cell 3
  have d4 := (hC4).cell 4
  have d5 := (hC4).cell 5
  have d6 := (hC4).cell 6
  have d7 := (hC4).cell 7
  have d8 := (hC4).cell 8
  have d9 := (hC4).cell 9
  have d10 := (hC4).cell 10
  have d11 := (hC4).cell 11
  have d12 := (hC4).cell 12
  have d13 := (hC4).cell 13
  have d14 := (hC4).cell 14
  simp only [List.getElem?_cons_zero, List.getElem?_cons_succ] at d0 d1 d2 d3 d4 d5 d6 d7 d8 d9 d10 d11 d12 d13 d14
  have hne : B4 ≠ w.heap.size + 1 := by omega
  by_cases he : e = 0
  · have g0 : (e == 0) = true := by simpa using he
    by_cases hc : p12 ≤ 9000
    · have g3 : decide (p12 ≤ 9000) = true := decide_eq_true hc
      have HD := hid (decide_eq_true (show e = 0 ∧ p12 ≤ 9000 from ⟨he, hc⟩))
      clear he hc
      go_big_region
      go_wp2_with fail
      refine bp_gen (fun W => Blk W (w.heap.size + 1) [.int .i64 p0, .int .i64 p1, .int .i64 p2, .int .i64 p3, .int .i64 p4, .int .i64 p5, .int .i64 p6, .int .i64 p7, .int .i64 p8, .int .i64 p9, .int .i64 p10, .int .i64 p11, .int .i64 p12, .int .i64 p13, .int .i64 p14] ∧ Keeps (· < w.heap.size) w W) ⟨?_, ?_⟩ ?_
      · repeat (first | with_reducible refine Blk.drew ?_ | with_reducible refine BlkN.set15 ?_ _ _ _ _ _ _ _ _ _ _ _ _ _ _ _ | with_reducible exact BlkN.of15 (by with_reducible assumption))
      · repeat (first | with_reducible assumption | with_reducible exact Keeps.refl _ _ | with_reducible refine Keeps.drew ?_ | with_reducible refine Keeps.drewN ?_ _ | with_reducible refine Keeps.setCell ?_ ?_ _ | with_reducible refine Keeps.alloc ?_ ?_ _)
        all_goals (first | (simp; done) | (simp; omega) | (intro b hb; first | exact hb | omega | (simp; omega) | (simp only [World.size_alloc]; omega)))
      clear hC1 hC4 hkk f1 z0 d0 z1 d1 z2 d2 z3 d3 z4 d4 z5 d5 z6 d6 z7 d7 z8 d8 z9 d9 z10 d10 z11 d11 z12 d12 z13 d13 z14 d14
      rintro W3 ⟨g1, g2⟩
      have y0 := (g1).cell 0
      have y1 := (g1).cell 1
      have y2 := (g1).cell 2
      have y3 := (g1).cell 3
      have y4 := (g1).cell 4
      have y5 := (g1).cell 5
      have y6 := (g1).cell 6
      have y7 := (g1).cell 7
      have y8 := (g1).cell 8
      have y9 := (g1).cell 9
      have y10 := (g1).cell 10
      have y11 := (g1).cell 11
      have y12 := (g1).cell 12
      have y13 := (g1).cell 13
      have y14 := (g1).cell 14
      simp only [List.getElem?_cons_zero, List.getElem?_cons_succ] at y0 y1 y2 y3 y4 y5 y6 y7 y8 y9 y10 y11 y12 y13 y14
      refine bodyPost_ret (v := .tuple #[.agg #[.int .i64 p0, .int .i64 p1, .int .i64 p2, .int .i64 p3, .int .i64 p4, .int .i64 p5, .int .i64 p6, .int .i64 p7, .int .i64 p8, .int .i64 p9, .int .i64 p10, .int .i64 p11, .int .i64 p12, .int .i64 p13, .int .i64 p14], .bool true]) ?_ rfl ?_
      · simp [results, Tryd.results9, go_sem, y0, y1, y2, y3, y4, y5, y6, y7, y8, y9, y10, y11, y12, y13, y14]
      · refine hR'.out _ _ ⟨?_, g2⟩
        rw [HD.out]
    · have g3 : decide (p12 ≤ 9000) = false := decide_eq_false hc
      have HD := hid (decide_eq_false (show ¬ (e = 0 ∧ p12 ≤ 9000) from fun h => hc h.2))
      clear he hc
      go_big_region
      go_wp2_with fail
      refine bp_gen (fun W => Blk W (w.heap.size + 1) [.int .i64 p0, .int .i64 p1, .int .i64 p2, .int .i64 p3, .int .i64 p4, .int .i64 p5, .int .i64 p6, .int .i64 p7, .int .i64 p8, .int .i64 p9, .int .i64 p10, .int .i64 p11, .int .i64 p12, .int .i64 p13, .int .i64 p14] ∧ Keeps (· < w.heap.size) w W) ⟨?_, ?_⟩ ?_
      · repeat (first | with_reducible refine Blk.drew ?_ | with_reducible refine BlkN.set15 ?_ _ _ _ _ _ _ _ _ _ _ _ _ _ _ _ | with_reducible exact BlkN.of15 (by with_reducible assumption))
      · repeat (first | with_reducible assumption | with_reducible exact Keeps.refl _ _ | with_reducible refine Keeps.drew ?_ | with_reducible refine Keeps.drewN ?_ _ | with_reducible refine Keeps.setCell ?_ ?_ _ | with_reducible refine Keeps.alloc ?_ ?_ _)
        all_goals (first | (simp; done) | (simp; omega) | (intro b hb; first | exact hb | omega | (simp; omega) | (simp only [World.size_alloc]; omega)))
      clear hC1 hC4 hkk f1 z0 d0 z1 d1 z2 d2 z3 d3 z4 d4 z5 d5 z6 d6 z7 d7 z8 d8 z9 d9 z10 d10 z11 d11 z12 d12 z13 d13 z14 d14
      rintro W3 ⟨g1, g2⟩
      have y0 := (g1).cell 0
      have y1 := (g1).cell 1
      have y2 := (g1).cell 2
      have y3 := (g1).cell 3
      have y4 := (g1).cell 4
      have y5 := (g1).cell 5
      have y6 := (g1).cell 6
      have y7 := (g1).cell 7
      have y8 := (g1).cell 8
      have y9 := (g1).cell 9
      have y10 := (g1).cell 10
      have y11 := (g1).cell 11
      have y12 := (g1).cell 12
      have y13 := (g1).cell 13
      have y14 := (g1).cell 14
      simp only [List.getElem?_cons_zero, List.getElem?_cons_succ] at y0 y1 y2 y3 y4 y5 y6 y7 y8 y9 y10 y11 y12 y13 y14
      refine bodyPost_ret (v := .tuple #[.agg #[.int .i64 p0, .int .i64 p1, .int .i64 p2, .int .i64 p3, .int .i64 p4, .int .i64 p5, .int .i64 p6, .int .i64 p7, .int .i64 p8, .int .i64 p9, .int .i64 p10, .int .i64 p11, .int .i64 p12, .int .i64 p13, .int .i64 p14], .bool false]) ?_ rfl ?_
      · simp [results, Tryd.results9, go_sem, y0, y1, y2, y3, y4, y5, y6, y7, y8, y9, y10, y11, y12, y13, y14]
      · refine hR'.out _ _ ⟨?_, g2⟩
        rw [HD.out]
  · have g0 : (e == 0) = false := by simpa using he
    have HD := hid (decide_eq_false (show ¬ (e = 0 ∧ p12 ≤ 9000) from fun h => he h.1))
    clear he
    go_big_region
    go_wp2_with fail
    refine bp_gen (fun W => Blk W (w.heap.size + 1) [.int .i64 p0, .int .i64 p1, .int .i64 p2, .int .i64 p3, .int .i64 p4, .int .i64 p5, .int .i64 p6, .int .i64 p7, .int .i64 p8, .int .i64 p9, .int .i64 p10, .int .i64 p11, .int .i64 p12, .int .i64 p13, .int .i64 p14] ∧ Keeps (· < w.heap.size) w W) ⟨?_, ?_⟩ ?_
    · repeat (first | with_reducible refine Blk.drew ?_ | with_reducible refine BlkN.set15 ?_ _ _ _ _ _ _ _ _ _ _ _ _ _ _ _ | with_reducible exact BlkN.of15 (by with_reducible assumption))
    · repeat (first | with_reducible assumption | with_reducible exact Keeps.refl _ _ | with_reducible refine Keeps.drew ?_ | with_reducible refine Keeps.drewN ?_ _ | with_reducible refine Keeps.setCell ?_ ?_ _ | with_reducible refine Keeps.alloc ?_ ?_ _)
      all_goals (first | (simp; done) | (simp; omega) | (intro b hb; first | exact hb | omega | (simp; omega) | (simp only [World.size_alloc]; omega)))
    clear hC1 hC4 hkk f1 z0 d0 z1 d1 z2 d2 z3 d3 z4 d4 z5 d5 z6 d6 z7 d7 z8 d8 z9 d9 z10 d10 z11 d11 z12 d12 z13 d13 z14 d14
    rintro W3 ⟨g1, g2⟩
    have y0 := (g1).cell 0
    have y1 := (g1).cell 1
    have y2 := (g1).cell 2
    have y3 := (g1).cell 3
    have y4 := (g1).cell 4
    have y5 := (g1).cell 5
    have y6 := (g1).cell 6
    have y7 := (g1).cell 7
    have y8 := (g1).cell 8
    have y9 := (g1).cell 9
    have y10 := (g1).cell 10
    have y11 := (g1).cell 11
    have y12 := (g1).cell 12
    have y13 := (g1).cell 13
    have y14 := (g1).cell 14
    simp only [List.getElem?_cons_zero, List.getElem?_cons_succ] at y0 y1 y2 y3 y4 y5 y6 y7 y8 y9 y10 y11 y12 y13 y14
    refine bodyPost_ret (v := .tuple #[.agg #[.int .i64 p0, .int .i64 p1, .int .i64 p2, .int .i64 p3, .int .i64 p4, .int .i64 p5, .int .i64 p6, .int .i64 p7, .int .i64 p8, .int .i64 p9, .int .i64 p10, .int .i64 p11, .int .i64 p12, .int .i64 p13, .int .i64 p14], .bool false]) ?_ rfl ?_
    · simp [results, Tryd.results9, go_sem, y0, y1, y2, y3, y4, y5, y6, y7, y8, y9, y10, y11, y12, y13, y14]
    · refine hR'.out _ _ ⟨?_, g2⟩
      rw [HD.out]
end Go.Proofs.YtbmgmjfpoepgpaaDoor
