/- Layer 10's statements: plan. -/
import Derived.Test.YtjnaibmnpajfdaaLawDD
namespace Go.Proofs.Ytjnaibmnpajfdaa
open Go.RowKit

theorem k_gen {K : Act → World → Prop} {a : Act} {w : World} (F : World → Prop) (hw : F w) (h : ∀ w', F w' → K a w') : K a w := h w hw

set_option maxRecDepth 100000 in
set_option maxHeartbeats 2000000 in
theorem plan10 (b : Int) (h0 : 0 ≤ b) (h1 : b < 600) (w : World) :
    Calls Try.prog 39 #[.int .u16 b] w fun e w' => e = .returned (planD b).val ∧ Keeps (· < w.heap.size) w w' := by
  have hL := lay_small ⟨1, 64, 0, 0, 0, 0, b, 16, .float .f64 0, .float .f64 0⟩ ⟨by simp, by simp, by simp, by simp, by simp, by simp, by simp, by simp, by simp, by simp, by simp, by simp, h0, by simp; omega, by simp, by simp⟩ (by simp) (by show 3 + 4 * 0 + 16 * 0 + 64 * 0 + 256 * 0 + b + 16 ≤ 65536; omega)
  have hp : ConfM.plan ⟨1, 64, 0, 0, 0, 0, b, 16, .float .f64 0, .float .f64 0⟩ = planD b := by
    unfold ConfM.plan planD ConfM.all
    simp
    omega
  rw [hp] at hL
  unfold ConfM.list planD PlanM.val at hL
  have hm : b % 600 = b := Int.emod_eq_of_lt h0 h1
  have HL := hid hL
  have Hp := hid hp
  clear hL hp
  refine calls_hide fun R' hR' => ?_
  unfold planD PlanM.val at hR'
  go_enter Try.func39, Try.ntmps39
  go_wp2_with fail
  refine calls_gen (fun W => Blk W w.heap.size [.int .i64 0, .int .i64 0, .int .i64 0, .int .i64 0, .int .i64 0, .int .i64 0, .int .i64 0, .int .i64 0, .int .i64 0, .int .i64 0, .int .i64 0, .int .i64 0, .int .i64 0, .int .i64 0, .int .i64 0] ∧ Keeps (· < w.heap.size) w W) ⟨?_, ?_⟩ ?_
  · repeat (first | with_reducible assumption | with_reducible exact Blk.new _ _ _ | with_reducible refine Blk.drew ?_ | with_reducible refine Blk.drewN ?_ _ | with_reducible refine Blk.set_ne ?_ _ ?_ | (with_reducible refine Blk.new' _ _ _ ?_; focus (simp; done)) | with_reducible refine Blk.alloc ?_ _)
    all_goals (first | assumption | (simp; done) | (simp; omega))
  · repeat (first | with_reducible assumption | with_reducible exact Keeps.refl _ _ | with_reducible refine Keeps.drew ?_ | with_reducible refine Keeps.drewN ?_ _ | with_reducible refine Keeps.setCell ?_ ?_ _ | with_reducible refine Keeps.alloc ?_ ?_ _)
    all_goals (first | (simp; done) | (simp; omega) | (intro b hb; first | exact hb | omega | (simp; omega) | (simp only [World.size_alloc]; omega)))
  rintro W ⟨hB, hk⟩
  refine (HL.out W).mono ?_
  rintro e w1 ⟨rfl, hk1⟩
  have hB1 := hB.keep hk1 hB.lt
  have hkk : Keeps (· < w.heap.size) w w1 := hk.trans (hk1.mono fun b hb => by have := hB.lt; omega)
  have hl1 := hB1.lt
  dsimp only
  go_step
  go_step
  go_step
  go_step
  go_step
  go_step
  go_step
  go_step
  go_step
  go_step
  go_step
  go_step
  go_step
  go_step
  go_step
  refine k_gen (fun W => Blk W w.heap.size [.int .i64 0, .int .i64 0, .int .i64 0, .int .i64 0, .int .i64 0, .int .i64 0, .int .i64 0, .int .i64 0, .int .i64 0, .int .i64 0, .int .i64 0, .int .i64 0, .int .i64 0, .int .i64 0, .int .i64 0] ∧ Blk W w1.heap.size [.int .i64 3, .int .i64 3, .int .i64 3, .int .i64 3, .int .i64 3, .int .i64 (3 + b), .int .i64 0, .int .i64 0, .int .i64 0, .int .i64 0, .int .i64 b, .int .i64 16, .int .i64 (19 + b), .int .i64 128, .int .i64 133] ∧ Keeps (· < w.heap.size) w W) ⟨?_, ?_, ?_⟩ ?_
  · repeat (first | with_reducible assumption | with_reducible exact Blk.new _ _ _ | with_reducible refine Blk.drew ?_ | with_reducible refine Blk.drewN ?_ _ | with_reducible refine Blk.set_ne ?_ _ ?_ | (with_reducible refine Blk.new' _ _ _ ?_; focus (simp; done)) | with_reducible refine Blk.alloc ?_ _)
    all_goals (first | assumption | (simp; done) | (simp; omega))
  · repeat (first | with_reducible assumption | with_reducible exact Blk.new _ _ _ | with_reducible refine Blk.drew ?_ | with_reducible refine Blk.drewN ?_ _ | with_reducible refine Blk.set_ne ?_ _ ?_ | (with_reducible refine Blk.new' _ _ _ ?_; focus (simp; done)) | with_reducible refine Blk.alloc ?_ _)
    all_goals (first | assumption | (simp; done) | (simp; omega))
  · repeat (first | with_reducible assumption | with_reducible exact Keeps.refl _ _ | with_reducible refine Keeps.drew ?_ | with_reducible refine Keeps.drewN ?_ _ | with_reducible refine Keeps.setCell ?_ ?_ _ | with_reducible refine Keeps.alloc ?_ ?_ _)
    all_goals (first | (simp; done) | (simp; omega) | (intro b hb; first | exact hb | omega | (simp; omega) | (simp only [World.size_alloc]; omega)))
  rintro W2 ⟨hB2, hP2, hk2⟩
  clear hB1 hkk hk1 hB hk
  generalize w1.heap.size = b1 at *
  generalize hbb : w.heap.size = b0 at *
  have Hbb := hid hbb
  clear hbb
  have p0 := (hB2).cell 0
  have p1 := (hB2).cell 1
  have p2 := (hB2).cell 2
  have p3 := (hB2).cell 3
  have p4 := (hB2).cell 4
  have p5 := (hB2).cell 5
  have p6 := (hB2).cell 6
  have p7 := (hB2).cell 7
  have p8 := (hB2).cell 8
  have p9 := (hB2).cell 9
  have p10 := (hB2).cell 10
  have p11 := (hB2).cell 11
  have p12 := (hB2).cell 12
  have p13 := (hB2).cell 13
  have p14 := (hB2).cell 14
  simp only [List.getElem?_cons_zero, List.getElem?_cons_succ] at p0 p1 p2 p3 p4 p5 p6 p7 p8 p9 p10 p11 p12 p13 p14
  have q0 := (hP2).cell 0
  have q1 := (hP2).cell 1
  have q2 := (hP2).cell 2
  have q3 := (hP2).cell 3
  have q4 := (hP2).cell 4
  have q5 := (hP2).cell 5
  have q6 := (hP2).cell 6
  have q7 := (hP2).cell 7
  have q8 := (hP2).cell 8
  have q9 := (hP2).cell 9
  have q10 := (hP2).cell 10
  have q11 := (hP2).cell 11
  have q12 := (hP2).cell 12
  have q13 := (hP2).cell 13
  have q14 := (hP2).cell 14
  simp only [List.getElem?_cons_zero, List.getElem?_cons_succ] at q0 q1 q2 q3 q4 q5 q6 q7 q8 q9 q10 q11 q12 q13 q14
  have f1 := hB2.free
  go_wp2_with fail
  refine bp_gen (fun W => Blk W b0 [.int .i64 3, .int .i64 3, .int .i64 3, .int .i64 3, .int .i64 3, .int .i64 (3 + b), .int .i64 0, .int .i64 0, .int .i64 0, .int .i64 0, .int .i64 b, .int .i64 16, .int .i64 (19 + b), .int .i64 128, .int .i64 133] ∧ Keeps (· < b0) w W) ⟨?_, ?_⟩ ?_
  · repeat (first | with_reducible refine Blk.drew ?_ | with_reducible refine BlkN.drew ?_ | with_reducible refine BlkN.set15 ?_ _ _ _ _ _ _ _ _ _ _ _ _ _ _ _ | with_reducible refine BlkN.set_ne ?_ _ ?_ | with_reducible refine BlkN.alloc ?_ _ | with_reducible exact BlkN.of15 (by with_reducible assumption))
    all_goals (first | (simp; done) | (simp; omega))
  · repeat (first | with_reducible assumption | with_reducible exact Keeps.refl _ _ | with_reducible refine Keeps.drew ?_ | with_reducible refine Keeps.drewN ?_ _ | with_reducible refine Keeps.setCell ?_ ?_ _ | with_reducible refine Keeps.alloc ?_ ?_ _)
    all_goals (first | (simp; done) | (simp; omega) | (intro b hb; first | exact hb | omega | (simp; omega) | (simp only [World.size_alloc]; omega)))
  clear f1 hB2 hP2 hk2 p0 q0 p1 q1 p2 q2 p3 q3 p4 q4 p5 q5 p6 q6 p7 q7 p8 q8 p9 q9 p10 q10 p11 q11 p12 q12 p13 q13 p14 q14
  rintro W3 ⟨g1, g2⟩
  have p0 := (g1).cell 0
  have p1 := (g1).cell 1
  have p2 := (g1).cell 2
  have p3 := (g1).cell 3
  have p4 := (g1).cell 4
  have p5 := (g1).cell 5
  have p6 := (g1).cell 6
  have p7 := (g1).cell 7
  have p8 := (g1).cell 8
  have p9 := (g1).cell 9
  have p10 := (g1).cell 10
  have p11 := (g1).cell 11
  have p12 := (g1).cell 12
  have p13 := (g1).cell 13
  have p14 := (g1).cell 14
  simp only [List.getElem?_cons_zero, List.getElem?_cons_succ] at p0 p1 p2 p3 p4 p5 p6 p7 p8 p9 p10 p11 p12 p13 p14
  refine bodyPost_ret (v := .agg #[.int .i64 3, .int .i64 3, .int .i64 3, .int .i64 3, .int .i64 3, .int .i64 (3 + b), .int .i64 0, .int .i64 0, .int .i64 0, .int .i64 0, .int .i64 b, .int .i64 16, .int .i64 (19 + b), .int .i64 128, .int .i64 133]) ?_ rfl ?_
  · simp [results, Try.results39, go_sem, p0, p1, p2, p3, p4, p5, p6, p7, p8, p9, p10, p11, p12, p13, p14]
  · exact hR'.out _ _ ⟨rfl, g2⟩

end Go.Proofs.Ytjnaibmnpajfdaa
