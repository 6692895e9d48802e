/- The second reference: Lay. -/
import Derived.Test.YtbmgmjfpoepgpaaDoorLay
namespace Go.Proofs.YtbmgmjfpoepgpaaDoor
open Go.RowKit

theorem BlkN.of15 {w : World} {b : Nat} {v0 v1 v2 v3 v4 v5 v6 v7 v8 v9 v10 v11 v12 v13 v14 : Value} (h : Blk w b [v0, v1, v2, v3, v4, v5, v6, v7, v8, v9, v10, v11, v12, v13, v14]) : BlkN w b 15 := ⟨_, h, rfl⟩
theorem BlkN.set15 {w : World} {b : Nat} (h : BlkN w b 15) (v0 v1 v2 v3 v4 v5 v6 v7 v8 v9 v10 v11 v12 v13 v14 : Value) :
    Blk (((((((((((((((w.setCell ⟨b, 0, none⟩ v0).setCell ⟨b, 1, none⟩ v1).setCell ⟨b, 2, none⟩ v2).setCell ⟨b, 3, none⟩ v3).setCell ⟨b, 4, none⟩ v4).setCell ⟨b, 5, none⟩ v5).setCell ⟨b, 6, none⟩ v6).setCell ⟨b, 7, none⟩ v7).setCell ⟨b, 8, none⟩ v8).setCell ⟨b, 9, none⟩ v9).setCell ⟨b, 10, none⟩ v10).setCell ⟨b, 11, none⟩ v11).setCell ⟨b, 12, none⟩ v12).setCell ⟨b, 13, none⟩ v13).setCell ⟨b, 14, none⟩ v14) b [v0, v1, v2, v3, v4, v5, v6, v7, v8, v9, v10, v11, v12, v13, v14] := by
  obtain ⟨l, h1, h2⟩ := h
  match l, h2 with
  | [x0, x1, x2, x3, x4, x5, x6, x7, x8, x9, x10, x11, x12, x13, x14], _ => exact (((((((((((((((h1.set 0 v0).set 1 v1).set 2 v2).set 3 v3).set 4 v4).set 5 v5).set 6 v6).set 7 v7).set 8 v8).set 9 v9).set 10 v10).set 11 v11).set 12 v12).set 13 v13).set 14 v14)

set_option maxRecDepth 100000 in
set_option maxHeartbeats 1000000 in
theorem lay_small (c : ConfM) (h : c.ok) (ht : c.terms < 128) (hall : c.all ≤ 65536) (w : World) :
    Calls Tryd.prog 33 #[.agg c.list.toArray] w fun e w' => e = .returned (.tuple #[c.plan.val, .int .i64 0]) ∧ Keeps (· < w.heap.size) w w' := by
  have hS := sizes_ok c h
  rw [show decide (c.all ≤ 65536) = true by simpa using hall] at hS
  obtain ⟨d0, d1, t0, t1, a0, a1, b0, b1, c0, c1, e0, e1, k0, k1, r0, r1⟩ := h
  have hb6 : baseC c 6 = c.all := by unfold ConfM.all; simp only [baseC, szC]
  obtain ⟨docs, terms, s0, s1, s2, s3, book, room, kk, bb⟩ := c
  simp only at ht d0 d1 t0 t1 a0 a1 b0 b1 c0 c1 e0 e1 k0 k1 r0 r1
  unfold ConfM.list six at *
  simp only [szC] at hS
  have HS := hid hS
  have Hb6 := hid hb6
  clear hS hb6
  refine calls_hide fun R' hR' => ?_
  go_enter Tryd.func33, Tryd.ntmps33
  go_wp2_with fail
  refine calls_gen (fun W => Blk W w.heap.size [.int .i64 docs, .int .i64 terms, .int .i64 s0, .int .i64 s1, .int .i64 s2, .int .i64 s3, .int .i64 book, .int .i64 room, kk, bb] ∧ Blk W (w.heap.size + 1) [.int .i64 0, .int .i64 0, .int .i64 0, .int .i64 0, .int .i64 0, .int .i64 0, .int .i64 0, .int .i64 0, .int .i64 0, .int .i64 0, .int .i64 0, .int .i64 0, .int .i64 0, .int .i64 0, .int .i64 0] ∧ Keeps (· < w.heap.size) w W) ⟨?_, ?_, ?_⟩ ?_
  · repeat (first | with_reducible assumption | with_reducible exact Blk.new _ _ _ | with_reducible refine Blk.drew ?_ | with_reducible refine Blk.drewN ?_ _ | with_reducible refine Blk.set_ne ?_ _ ?_ | (with_reducible refine Blk.new' _ _ _ ?_; focus (simp; done)) | with_reducible refine Blk.alloc ?_ _)
    all_goals (first | assumption | (simp; done) | (simp; omega))
  · repeat (first | with_reducible assumption | with_reducible exact Blk.new _ _ _ | with_reducible refine Blk.drew ?_ | with_reducible refine Blk.drewN ?_ _ | with_reducible refine BlkN.set1 ?_ _ | with_reducible refine BlkN.set6 ?_ _ _ _ _ _ _ | with_reducible exact BlkN.of1 (by with_reducible assumption) | with_reducible exact BlkN.of6 (by with_reducible assumption) | with_reducible refine BlkN.drew ?_ | with_reducible refine BlkN.drewN ?_ _ | with_reducible refine BlkN.set_ne ?_ _ ?_ | with_reducible refine BlkN.alloc ?_ _ | with_reducible refine Blk.set_ne ?_ _ ?_ | (with_reducible refine Blk.new' _ _ _ ?_; focus (simp; done)) | with_reducible refine Blk.alloc ?_ _)
    all_goals (first | assumption | (simp; done) | (simp; omega))
  · repeat (first | with_reducible assumption | with_reducible exact Keeps.refl _ _ | with_reducible refine Keeps.drew ?_ | with_reducible refine Keeps.drewN ?_ _ | with_reducible refine Keeps.setCell ?_ ?_ _ | with_reducible refine Keeps.alloc ?_ ?_ _)
    all_goals (first | (simp; done) | (simp; omega) | (intro b hb; first | exact hb | omega | (simp; omega) | (simp only [World.size_alloc]; omega)))
  rintro W ⟨hB0, hB1, hk⟩
  refine (HS.out W).mono ?_
  rintro e w1 ⟨rfl, hk1⟩
  have hl0 := hB0.lt
  have hC0 := hB0.keep hk1 hl0
  have hkk := hk.trans (hk1.mono fun b hb => by omega)
  have c0 := (hC0).cell 0
  have c1 := (hC0).cell 1
  have c2 := (hC0).cell 2
  have c3 := (hC0).cell 3
  have c4 := (hC0).cell 4
  have c5 := (hC0).cell 5
  have c6 := (hC0).cell 6
  have c7 := (hC0).cell 7
  have c8 := (hC0).cell 8
  have c9 := (hC0).cell 9
  simp only [List.getElem?_cons_zero, List.getElem?_cons_succ] at c0 c1 c2 c3 c4 c5 c6 c7 c8 c9
  go_wp2_with fail
  have hz1 := hk1.size
  have lb1 := hB1.lt
  have hC1 := hB1.keep hk1 lb1
  refine wp_gen (fun W => Blk W w.heap.size [.int .i64 docs, .int .i64 terms, .int .i64 s0, .int .i64 s1, .int .i64 s2, .int .i64 s3, .int .i64 book, .int .i64 room, kk, bb] ∧ Blk W w1.heap.size [.int .i64 (4 * s0), .int .i64 (16 * s1), .int .i64 (64 * s2), .int .i64 (256 * s3), .int .i64 book, .int .i64 room] ∧ Blk W (w1.heap.size + 1) [.int .i64 0, .int .i64 0, .int .i64 0, .int .i64 0, .int .i64 0, .int .i64 0, .int .i64 (4 * s0), .int .i64 (16 * s1), .int .i64 (64 * s2), .int .i64 (256 * s3), .int .i64 book, .int .i64 room, .int .i64 0, .int .i64 128, .int .i64 0] ∧ Blk W (w.heap.size + 1) [.int .i64 0, .int .i64 0, .int .i64 0, .int .i64 0, .int .i64 0, .int .i64 0, .int .i64 0, .int .i64 0, .int .i64 0, .int .i64 0, .int .i64 0, .int .i64 0, .int .i64 0, .int .i64 0, .int .i64 0] ∧ Keeps (· < w.heap.size) w W) ⟨?_, ?_, ?_, ?_, ?_⟩ ?_
  · repeat (first | with_reducible assumption | with_reducible exact Blk.new _ _ _ | with_reducible refine Blk.drew ?_ | with_reducible refine Blk.drewN ?_ _ | with_reducible refine Blk.set_ne ?_ _ ?_ | (with_reducible refine Blk.new' _ _ _ ?_; focus (simp; done)) | with_reducible refine Blk.alloc ?_ _)
    all_goals (first | assumption | (simp; done) | (simp; omega))
  · repeat (first | with_reducible assumption | with_reducible exact Blk.new _ _ _ | with_reducible refine Blk.drew ?_ | with_reducible refine Blk.drewN ?_ _ | with_reducible refine Blk.set_ne ?_ _ ?_ | (with_reducible refine Blk.new' _ _ _ ?_; focus (simp; done)) | with_reducible refine Blk.alloc ?_ _)
    all_goals (first | assumption | (simp; done) | (simp; omega))
  · repeat (first | with_reducible assumption | with_reducible exact Blk.new _ _ _ | with_reducible refine Blk.drew ?_ | with_reducible refine Blk.drewN ?_ _ | with_reducible refine Blk.set_ne ?_ _ ?_ | (with_reducible refine Blk.new' _ _ _ ?_; focus (simp; done)) | with_reducible refine Blk.alloc ?_ _)
    all_goals (first | assumption | (simp; done) | (simp; omega))
  · repeat (first | with_reducible assumption | with_reducible exact Blk.new _ _ _ | with_reducible refine Blk.drew ?_ | with_reducible refine Blk.drewN ?_ _ | with_reducible refine Blk.set_ne ?_ _ ?_ | (with_reducible refine Blk.new' _ _ _ ?_; focus (simp; done)) | with_reducible refine Blk.alloc ?_ _)
    all_goals (first | assumption | (simp; done) | (simp; omega))
  · repeat (first | with_reducible assumption | with_reducible exact Keeps.refl _ _ | with_reducible refine Keeps.drew ?_ | with_reducible refine Keeps.drewN ?_ _ | with_reducible refine Keeps.setCell ?_ ?_ _ | with_reducible refine Keeps.alloc ?_ ?_ _)
    all_goals (first | (simp; done) | (simp; omega) | (intro b hb; first | exact hb | omega | (simp; omega) | (simp only [World.size_alloc]; omega)))
  have hbs : w.heap.size + 1 < w1.heap.size := by omega
  generalize w1.heap.size = bs at *
  clear hB0 hB1 hC0 hC1 hkk hk hk1 c0 c1 c2 c3 c4 c5 c6 c7 c8 c9
  rintro W2 ⟨hC0, hD0, hD1, hD2, hk⟩
  generalize hb : w.heap.size = b at *
  have Hb := hid hb
  clear hb
  go_loopw [7, 8] (fun at' kv wr => ∃ k : Nat, k ≤ 6 ∧ kv = .int .i64 k ∧ at' = .int .i64 (baseC ⟨docs, terms, s0, s1, s2, s3, book, room, kk, bb⟩ k) ∧ Blk wr b [.int .i64 docs, .int .i64 terms, .int .i64 s0, .int .i64 s1, .int .i64 s2, .int .i64 s3, .int .i64 book, .int .i64 room, kk, bb] ∧ Blk wr bs [.int .i64 (4 * s0), .int .i64 (16 * s1), .int .i64 (64 * s2), .int .i64 (256 * s3), .int .i64 book, .int .i64 room] ∧
    Blk wr (bs + 1) [.int .i64 (upto k (baseC ⟨docs, terms, s0, s1, s2, s3, book, room, kk, bb⟩) 0), .int .i64 (upto k (baseC ⟨docs, terms, s0, s1, s2, s3, book, room, kk, bb⟩) 1), .int .i64 (upto k (baseC ⟨docs, terms, s0, s1, s2, s3, book, room, kk, bb⟩) 2), .int .i64 (upto k (baseC ⟨docs, terms, s0, s1, s2, s3, book, room, kk, bb⟩) 3), .int .i64 (upto k (baseC ⟨docs, terms, s0, s1, s2, s3, book, room, kk, bb⟩) 4), .int .i64 (upto k (baseC ⟨docs, terms, s0, s1, s2, s3, book, room, kk, bb⟩) 5), .int .i64 (4 * s0), .int .i64 (16 * s1), .int .i64 (64 * s2), .int .i64 (256 * s3), .int .i64 book, .int .i64 room, .int .i64 0, .int .i64 128, .int .i64 0] ∧ Blk wr (b + 1) [.int .i64 0, .int .i64 0, .int .i64 0, .int .i64 0, .int .i64 0, .int .i64 0, .int .i64 0, .int .i64 0, .int .i64 0, .int .i64 0, .int .i64 0, .int .i64 0, .int .i64 0, .int .i64 0, .int .i64 0] ∧ Keeps (· < b) w wr) (fun _ kv _ => 6 - (intOf kv).toNat)
  case atStart => exact ⟨0, by omega, rfl, rfl, hC0, hD0, hD1, hD2, hk⟩
  case round =>
    clear hC0 hD0 hD1 hD2 hk
    obtain ⟨k, hk6, rfl, rfl, hC0, hD0, hD1, hD2, hkr⟩ := hrel
    rcases (by omega : k = 0 ∨ k = 1 ∨ k = 2 ∨ k = 3 ∨ k = 4 ∨ k = 5 ∨ k = 6) with rfl | rfl | rfl | rfl | rfl | rfl | rfl
    · simp only [baseC, szC, upto, Nat.lt_irrefl, Nat.not_lt_zero, if_true, if_false, Nat.zero_lt_succ, Nat.reduceLT] at *
      have d0 := (hD0).cell 0
      have d1 := (hD0).cell 1
      have d2 := (hD0).cell 2
      have d3 := (hD0).cell 3
      have d4 := (hD0).cell 4
      have d5 := (hD0).cell 5
      simp only [List.getElem?_cons_zero, List.getElem?_cons_succ] at d0 d1 d2 d3 d4 d5
      have p0 := (hD1).cell 0
      have p1 := (hD1).cell 1
      have p2 := (hD1).cell 2
      have p3 := (hD1).cell 3
      have p4 := (hD1).cell 4
      have p5 := (hD1).cell 5
      have p6 := (hD1).cell 6
      have p7 := (hD1).cell 7
      have p8 := (hD1).cell 8
      have p9 := (hD1).cell 9
      have p10 := (hD1).cell 10
      have p11 := (hD1).cell 11
      have p12 := (hD1).cell 12
      have p13 := (hD1).cell 13
      have p14 := (hD1).cell 14
      simp only [List.getElem?_cons_zero, List.getElem?_cons_succ] at p0 p1 p2 p3 p4 p5 p6 p7 p8 p9 p10 p11 p12 p13 p14
      have f1 := hD1.free
      go_wp2_with fail
      go_roundw
      case rel =>
        refine ⟨1, by omega, rfl, congrArg (Value.int .i64) (by simp only [baseC, szC] <;> omega), ?_, ?_, ?_, ?_, ?_⟩
        · repeat (first | with_reducible assumption | with_reducible exact Blk.new _ _ _ | with_reducible refine Blk.drew ?_ | with_reducible refine Blk.drewN ?_ _ | with_reducible refine Blk.set_ne ?_ _ ?_ | (with_reducible refine Blk.new' _ _ _ ?_; focus (simp; done)) | with_reducible refine Blk.alloc ?_ _)
          all_goals (first | assumption | (simp; done) | (simp; omega))
        · repeat (first | with_reducible assumption | with_reducible exact Blk.new _ _ _ | with_reducible refine Blk.drew ?_ | with_reducible refine Blk.drewN ?_ _ | with_reducible refine Blk.set_ne ?_ _ ?_ | (with_reducible refine Blk.new' _ _ _ ?_; focus (simp; done)) | with_reducible refine Blk.alloc ?_ _)
          all_goals (first | assumption | (simp; done) | (simp; omega))
        · have hx := hD1.set 0 (.int .i64 (3))
          first
            | (refine Blk.drew ?_; simpa [upto, baseC, szC] using hx)
            | simpa [upto, baseC, szC] using hx
        · repeat (first | with_reducible assumption | with_reducible exact Blk.new _ _ _ | with_reducible refine Blk.drew ?_ | with_reducible refine Blk.drewN ?_ _ | with_reducible refine Blk.set_ne ?_ _ ?_ | (with_reducible refine Blk.new' _ _ _ ?_; focus (simp; done)) | with_reducible refine Blk.alloc ?_ _)
          all_goals (first | assumption | (simp; done) | (simp; omega))
        · repeat (first | with_reducible assumption | with_reducible exact Keeps.refl _ _ | with_reducible refine Keeps.drew ?_ | with_reducible refine Keeps.drewN ?_ _ | with_reducible refine Keeps.setCell ?_ ?_ _ | with_reducible refine Keeps.alloc ?_ ?_ _)
          all_goals (first | (simp; done) | (simp; omega) | (intro b hb; first | exact hb | omega | (simp; omega) | (simp only [World.size_alloc]; omega)))
      case measure => simp [intOf]
    · simp only [baseC, szC, upto, Nat.lt_irrefl, Nat.not_lt_zero, if_true, if_false, Nat.zero_lt_succ, Nat.reduceLT] at *
      have d0 := (hD0).cell 0
      have d1 := (hD0).cell 1
      have d2 := (hD0).cell 2
      have d3 := (hD0).cell 3
      have d4 := (hD0).cell 4
      have d5 := (hD0).cell 5
      simp only [List.getElem?_cons_zero, List.getElem?_cons_succ] at d0 d1 d2 d3 d4 d5
      have p0 := (hD1).cell 0
      have p1 := (hD1).cell 1
      have p2 := (hD1).cell 2
      have p3 := (hD1).cell 3
      have p4 := (hD1).cell 4
      have p5 := (hD1).cell 5
      have p6 := (hD1).cell 6
      have p7 := (hD1).cell 7
      have p8 := (hD1).cell 8
      have p9 := (hD1).cell 9
      have p10 := (hD1).cell 10
      have p11 := (hD1).cell 11
      have p12 := (hD1).cell 12
      have p13 := (hD1).cell 13
      have p14 := (hD1).cell 14
      simp only [List.getElem?_cons_zero, List.getElem?_cons_succ] at p0 p1 p2 p3 p4 p5 p6 p7 p8 p9 p10 p11 p12 p13 p14
      have f1 := hD1.free
      go_wp2_with fail
      go_roundw
      case rel =>
        refine ⟨2, by omega, rfl, congrArg (Value.int .i64) (by simp only [baseC, szC] <;> omega), ?_, ?_, ?_, ?_, ?_⟩
        · repeat (first | with_reducible assumption | with_reducible exact Blk.new _ _ _ | with_reducible refine Blk.drew ?_ | with_reducible refine Blk.drewN ?_ _ | with_reducible refine Blk.set_ne ?_ _ ?_ | (with_reducible refine Blk.new' _ _ _ ?_; focus (simp; done)) | with_reducible refine Blk.alloc ?_ _)
          all_goals (first | assumption | (simp; done) | (simp; omega))
        · repeat (first | with_reducible assumption | with_reducible exact Blk.new _ _ _ | with_reducible refine Blk.drew ?_ | with_reducible refine Blk.drewN ?_ _ | with_reducible refine Blk.set_ne ?_ _ ?_ | (with_reducible refine Blk.new' _ _ _ ?_; focus (simp; done)) | with_reducible refine Blk.alloc ?_ _)
          all_goals (first | assumption | (simp; done) | (simp; omega))
        · have hx := hD1.set 1 (.int .i64 (3 + 4 * s0))
          first
            | (refine Blk.drew ?_; simpa [upto, baseC, szC] using hx)
            | simpa [upto, baseC, szC] using hx
        · repeat (first | with_reducible assumption | with_reducible exact Blk.new _ _ _ | with_reducible refine Blk.drew ?_ | with_reducible refine Blk.drewN ?_ _ | with_reducible refine Blk.set_ne ?_ _ ?_ | (with_reducible refine Blk.new' _ _ _ ?_; focus (simp; done)) | with_reducible refine Blk.alloc ?_ _)
          all_goals (first | assumption | (simp; done) | (simp; omega))
        · repeat (first | with_reducible assumption | with_reducible exact Keeps.refl _ _ | with_reducible refine Keeps.drew ?_ | with_reducible refine Keeps.drewN ?_ _ | with_reducible refine Keeps.setCell ?_ ?_ _ | with_reducible refine Keeps.alloc ?_ ?_ _)
          all_goals (first | (simp; done) | (simp; omega) | (intro b hb; first | exact hb | omega | (simp; omega) | (simp only [World.size_alloc]; omega)))
      case measure => simp [intOf]
    · simp only [baseC, szC, upto, Nat.lt_irrefl, Nat.not_lt_zero, if_true, if_false, Nat.zero_lt_succ, Nat.reduceLT] at *
      have d0 := (hD0).cell 0
      have d1 := (hD0).cell 1
      have d2 := (hD0).cell 2
      have d3 := (hD0).cell 3
      have d4 := (hD0).cell 4
      have d5 := (hD0).cell 5
      simp only [List.getElem?_cons_zero, List.getElem?_cons_succ] at d0 d1 d2 d3 d4 d5
      have p0 := (hD1).cell 0
      have p1 := (hD1).cell 1
      have p2 := (hD1).cell 2
      have p3 := (hD1).cell 3
      have p4 := (hD1).cell 4
      have p5 := (hD1).cell 5
      have p6 := (hD1).cell 6
      have p7 := (hD1).cell 7
      have p8 := (hD1).cell 8
      have p9 := (hD1).cell 9
      have p10 := (hD1).cell 10
      have p11 := (hD1).cell 11
      have p12 := (hD1).cell 12
      have p13 := (hD1).cell 13
      have p14 := (hD1).cell 14
      simp only [List.getElem?_cons_zero, List.getElem?_cons_succ] at p0 p1 p2 p3 p4 p5 p6 p7 p8 p9 p10 p11 p12 p13 p14
      have f1 := hD1.free
      go_wp2_with fail
      go_roundw
      case rel =>
        refine ⟨3, by omega, rfl, congrArg (Value.int .i64) (by simp only [baseC, szC] <;> omega), ?_, ?_, ?_, ?_, ?_⟩
        · repeat (first | with_reducible assumption | with_reducible exact Blk.new _ _ _ | with_reducible refine Blk.drew ?_ | with_reducible refine Blk.drewN ?_ _ | with_reducible refine Blk.set_ne ?_ _ ?_ | (with_reducible refine Blk.new' _ _ _ ?_; focus (simp; done)) | with_reducible refine Blk.alloc ?_ _)
          all_goals (first | assumption | (simp; done) | (simp; omega))
        · repeat (first | with_reducible assumption | with_reducible exact Blk.new _ _ _ | with_reducible refine Blk.drew ?_ | with_reducible refine Blk.drewN ?_ _ | with_reducible refine Blk.set_ne ?_ _ ?_ | (with_reducible refine Blk.new' _ _ _ ?_; focus (simp; done)) | with_reducible refine Blk.alloc ?_ _)
          all_goals (first | assumption | (simp; done) | (simp; omega))
        · have hx := hD1.set 2 (.int .i64 (3 + 4 * s0 + 16 * s1))
          first
            | (refine Blk.drew ?_; simpa [upto, baseC, szC] using hx)
            | simpa [upto, baseC, szC] using hx
        · repeat (first | with_reducible assumption | with_reducible exact Blk.new _ _ _ | with_reducible refine Blk.drew ?_ | with_reducible refine Blk.drewN ?_ _ | with_reducible refine Blk.set_ne ?_ _ ?_ | (with_reducible refine Blk.new' _ _ _ ?_; focus (simp; done)) | with_reducible refine Blk.alloc ?_ _)
          all_goals (first | assumption | (simp; done) | (simp; omega))
        · repeat (first | with_reducible assumption | with_reducible exact Keeps.refl _ _ | with_reducible refine Keeps.drew ?_ | with_reducible refine Keeps.drewN ?_ _ | with_reducible refine Keeps.setCell ?_ ?_ _ | with_reducible refine Keeps.alloc ?_ ?_ _)
          all_goals (first | (simp; done) | (simp; omega) | (intro b hb; first | exact hb | omega | (simp; omega) | (simp only [World.size_alloc]; omega)))
      case measure => simp [intOf]
    · simp only [baseC, szC, upto, Nat.lt_irrefl, Nat.not_lt_zero, if_true, if_false, Nat.zero_lt_succ, Nat.reduceLT] at *
      have d0 := (hD0).cell 0
      have d1 := (hD0).cell 1
      have d2 := (hD0).cell 2
      have d3 := (hD0).cell 3
      have d4 := (hD0).cell 4
      have d5 := (hD0).cell 5
      simp only [List.getElem?_cons_zero, List.getElem?_cons_succ] at d0 d1 d2 d3 d4 d5
      have p0 := (hD1).cell 0
      have p1 := (hD1).cell 1
      have p2 := (hD1).cell 2
      have p3 := (hD1).cell 3
      have p4 := (hD1).cell 4
      have p5 := (hD1).cell 5
      have p6 := (hD1).cell 6
      have p7 := (hD1).cell 7
      have p8 := (hD1).cell 8
      have p9 := (hD1).cell 9
      have p10 := (hD1).cell 10
      have p11 := (hD1).cell 11
      have p12 := (hD1).cell 12
      have p13 := (hD1).cell 13
      have p14 := (hD1).cell 14
      simp only [List.getElem?_cons_zero, List.getElem?_cons_succ] at p0 p1 p2 p3 p4 p5 p6 p7 p8 p9 p10 p11 p12 p13 p14
      have f1 := hD1.free
      go_wp2_with fail
      go_roundw
      case rel =>
        refine ⟨4, by omega, rfl, congrArg (Value.int .i64) (by simp only [baseC, szC] <;> omega), ?_, ?_, ?_, ?_, ?_⟩
        · repeat (first | with_reducible assumption | with_reducible exact Blk.new _ _ _ | with_reducible refine Blk.drew ?_ | with_reducible refine Blk.drewN ?_ _ | with_reducible refine Blk.set_ne ?_ _ ?_ | (with_reducible refine Blk.new' _ _ _ ?_; focus (simp; done)) | with_reducible refine Blk.alloc ?_ _)
          all_goals (first | assumption | (simp; done) | (simp; omega))
        · repeat (first | with_reducible assumption | with_reducible exact Blk.new _ _ _ | with_reducible refine Blk.drew ?_ | with_reducible refine Blk.drewN ?_ _ | with_reducible refine Blk.set_ne ?_ _ ?_ | (with_reducible refine Blk.new' _ _ _ ?_; focus (simp; done)) | with_reducible refine Blk.alloc ?_ _)
          all_goals (first | assumption | (simp; done) | (simp; omega))
        · have hx := hD1.set 3 (.int .i64 (3 + 4 * s0 + 16 * s1 + 64 * s2))
          first
            | (refine Blk.drew ?_; simpa [upto, baseC, szC] using hx)
            | simpa [upto, baseC, szC] using hx
        · repeat (first | with_reducible assumption | with_reducible exact Blk.new _ _ _ | with_reducible refine Blk.drew ?_ | with_reducible refine Blk.drewN ?_ _ | with_reducible refine Blk.set_ne ?_ _ ?_ | (with_reducible refine Blk.new' _ _ _ ?_; focus (simp; done)) | with_reducible refine Blk.alloc ?_ _)
          all_goals (first | assumption | (simp; done) | (simp; omega))
        · repeat (first | with_reducible assumption | with_reducible exact Keeps.refl _ _ | with_reducible refine Keeps.drew ?_ | with_reducible refine Keeps.drewN ?_ _ | with_reducible refine Keeps.setCell ?_ ?_ _ | with_reducible refine Keeps.alloc ?_ ?_ _)
          all_goals (first | (simp; done) | (simp; omega) | (intro b hb; first | exact hb | omega | (simp; omega) | (simp only [World.size_alloc]; omega)))
      case measure => simp [intOf]
    · simp only [baseC, szC, upto, Nat.lt_irrefl, Nat.not_lt_zero, if_true, if_false, Nat.zero_lt_succ, Nat.reduceLT] at *
      have d0 := (hD0).cell 0
      have d1 := (hD0).cell 1
      have d2 := (hD0).cell 2
      have d3 := (hD0).cell 3
      have d4 := (hD0).cell 4
      have d5 := (hD0).cell 5
      simp only [List.getElem?_cons_zero, List.getElem?_cons_succ] at d0 d1 d2 d3 d4 d5
      have p0 := (hD1).cell 0
      have p1 := (hD1).cell 1
      have p2 := (hD1).cell 2
      have p3 := (hD1).cell 3
      have p4 := (hD1).cell 4
      have p5 := (hD1).cell 5
      have p6 := (hD1).cell 6
      have p7 := (hD1).cell 7
      have p8 := (hD1).cell 8
      have p9 := (hD1).cell 9
      have p10 := (hD1).cell 10
      have p11 := (hD1).cell 11
      have p12 := (hD1).cell 12
      have p13 := (hD1).cell 13
      have p14 := (hD1).cell 14
      simp only [List.getElem?_cons_zero, List.getElem?_cons_succ] at p0 p1 p2 p3 p4 p5 p6 p7 p8 p9 p10 p11 p12 p13 p14
      have f1 := hD1.free
      go_wp2_with fail
      go_roundw
      case rel =>
        refine ⟨5, by omega, rfl, congrArg (Value.int .i64) (by simp only [baseC, szC] <;> omega), ?_, ?_, ?_, ?_, ?_⟩
        · repeat (first | with_reducible assumption | with_reducible exact Blk.new _ _ _ | with_reducible refine Blk.drew ?_ | with_reducible refine Blk.drewN ?_ _ | with_reducible refine Blk.set_ne ?_ _ ?_ | (with_reducible refine Blk.new' _ _ _ ?_; focus (simp; done)) | with_reducible refine Blk.alloc ?_ _)
          all_goals (first | assumption | (simp; done) | (simp; omega))
        · repeat (first | with_reducible assumption | with_reducible exact Blk.new _ _ _ | with_reducible refine Blk.drew ?_ | with_reducible refine Blk.drewN ?_ _ | with_reducible refine Blk.set_ne ?_ _ ?_ | (with_reducible refine Blk.new' _ _ _ ?_; focus (simp; done)) | with_reducible refine Blk.alloc ?_ _)
          all_goals (first | assumption | (simp; done) | (simp; omega))
        · have hx := hD1.set 4 (.int .i64 (3 + 4 * s0 + 16 * s1 + 64 * s2 + 256 * s3))
          first
            | (refine Blk.drew ?_; simpa [upto, baseC, szC] using hx)
            | simpa [upto, baseC, szC] using hx
        · repeat (first | with_reducible assumption | with_reducible exact Blk.new _ _ _ | with_reducible refine Blk.drew ?_ | with_reducible refine Blk.drewN ?_ _ | with_reducible refine Blk.set_ne ?_ _ ?_ | (with_reducible refine Blk.new' _ _ _ ?_; focus (simp; done)) | with_reducible refine Blk.alloc ?_ _)
          all_goals (first | assumption | (simp; done) | (simp; omega))
        · repeat (first | with_reducible assumption | with_reducible exact Keeps.refl _ _ | with_reducible refine Keeps.drew ?_ | with_reducible refine Keeps.drewN ?_ _ | with_reducible refine Keeps.setCell ?_ ?_ _ | with_reducible refine Keeps.alloc ?_ ?_ _)
          all_goals (first | (simp; done) | (simp; omega) | (intro b hb; first | exact hb | omega | (simp; omega) | (simp only [World.size_alloc]; omega)))
      case measure => simp [intOf]
    · simp only [baseC, szC, upto, Nat.lt_irrefl, Nat.not_lt_zero, if_true, if_false, Nat.zero_lt_succ, Nat.reduceLT] at *
      have d0 := (hD0).cell 0
      have d1 := (hD0).cell 1
      have d2 := (hD0).cell 2
      have d3 := (hD0).cell 3
      have d4 := (hD0).cell 4
      have d5 := (hD0).cell 5
      simp only [List.getElem?_cons_zero, List.getElem?_cons_succ] at d0 d1 d2 d3 d4 d5
      have p0 := (hD1).cell 0
      have p1 := (hD1).cell 1
      have p2 := (hD1).cell 2
      have p3 := (hD1).cell 3
      have p4 := (hD1).cell 4
      have p5 := (hD1).cell 5
      have p6 := (hD1).cell 6
      have p7 := (hD1).cell 7
      have p8 := (hD1).cell 8
      have p9 := (hD1).cell 9
      have p10 := (hD1).cell 10
      have p11 := (hD1).cell 11
      have p12 := (hD1).cell 12
      have p13 := (hD1).cell 13
      have p14 := (hD1).cell 14
      simp only [List.getElem?_cons_zero, List.getElem?_cons_succ] at p0 p1 p2 p3 p4 p5 p6 p7 p8 p9 p10 p11 p12 p13 p14
      have f1 := hD1.free
      go_wp2_with fail
      go_roundw
      case rel =>
        refine ⟨6, by omega, rfl, congrArg (Value.int .i64) (by simp only [baseC, szC] <;> omega), ?_, ?_, ?_, ?_, ?_⟩
        · repeat (first | with_reducible assumption | with_reducible exact Blk.new _ _ _ | with_reducible refine Blk.drew ?_ | with_reducible refine Blk.drewN ?_ _ | with_reducible refine Blk.set_ne ?_ _ ?_ | (with_reducible refine Blk.new' _ _ _ ?_; focus (simp; done)) | with_reducible refine Blk.alloc ?_ _)
          all_goals (first | assumption | (simp; done) | (simp; omega))
        · repeat (first | with_reducible assumption | with_reducible exact Blk.new _ _ _ | with_reducible refine Blk.drew ?_ | with_reducible refine Blk.drewN ?_ _ | with_reducible refine Blk.set_ne ?_ _ ?_ | (with_reducible refine Blk.new' _ _ _ ?_; focus (simp; done)) | with_reducible refine Blk.alloc ?_ _)
          all_goals (first | assumption | (simp; done) | (simp; omega))
        · have hx := hD1.set 5 (.int .i64 (3 + 4 * s0 + 16 * s1 + 64 * s2 + 256 * s3 + book))
          first
            | (refine Blk.drew ?_; simpa [upto, baseC, szC] using hx)
            | simpa [upto, baseC, szC] using hx
        · repeat (first | with_reducible assumption | with_reducible exact Blk.new _ _ _ | with_reducible refine Blk.drew ?_ | with_reducible refine Blk.drewN ?_ _ | with_reducible refine Blk.set_ne ?_ _ ?_ | (with_reducible refine Blk.new' _ _ _ ?_; focus (simp; done)) | with_reducible refine Blk.alloc ?_ _)
          all_goals (first | assumption | (simp; done) | (simp; omega))
        · repeat (first | with_reducible assumption | with_reducible exact Keeps.refl _ _ | with_reducible refine Keeps.drew ?_ | with_reducible refine Keeps.drewN ?_ _ | with_reducible refine Keeps.setCell ?_ ?_ _ | with_reducible refine Keeps.alloc ?_ ?_ _)
          all_goals (first | (simp; done) | (simp; omega) | (intro b hb; first | exact hb | omega | (simp; omega) | (simp only [World.size_alloc]; omega)))
      case measure => simp [intOf]
    · simp only [upto, if_true, Nat.reduceLT] at hD1
      rw [Hb6.out]
      simp only [baseC, szC] at hD1
      have hal : ConfM.all ⟨docs, terms, s0, s1, s2, s3, book, room, kk, bb⟩ = 3 + 4 * s0 + 16 * s1 + 64 * s2 + 256 * s3 + book + room := rfl
      generalize ConfM.all ⟨docs, terms, s0, s1, s2, s3, book, room, kk, bb⟩ = al at *
      have Hal := hid hal
      clear hal
      have c0 := (hC0).cell 0
      have c1 := (hC0).cell 1
      simp only [List.getElem?_cons_zero, List.getElem?_cons_succ] at c0 c1
      have p0 := (hD1).cell 0
      have p1 := (hD1).cell 1
      have p2 := (hD1).cell 2
      have p3 := (hD1).cell 3
      have p4 := (hD1).cell 4
      have p5 := (hD1).cell 5
      have p6 := (hD1).cell 6
      have p7 := (hD1).cell 7
      have p8 := (hD1).cell 8
      have p9 := (hD1).cell 9
      have p10 := (hD1).cell 10
      have p11 := (hD1).cell 11
      have p12 := (hD1).cell 12
      have p13 := (hD1).cell 13
      have p14 := (hD1).cell 14
      simp only [List.getElem?_cons_zero, List.getElem?_cons_succ] at p0 p1 p2 p3 p4 p5 p6 p7 p8 p9 p10 p11 p12 p13 p14
      have f1 := hD1.free
      have f2 := hD2.free
      have z0 := (hD2).cell 0
      have z1 := (hD2).cell 1
      have z2 := (hD2).cell 2
      have z3 := (hD2).cell 3
      have z4 := (hD2).cell 4
      have z5 := (hD2).cell 5
      have z6 := (hD2).cell 6
      have z7 := (hD2).cell 7
      have z8 := (hD2).cell 8
      have z9 := (hD2).cell 9
      have z10 := (hD2).cell 10
      have z11 := (hD2).cell 11
      have z12 := (hD2).cell 12
      have z13 := (hD2).cell 13
      have z14 := (hD2).cell 14
      simp only [List.getElem?_cons_zero, List.getElem?_cons_succ] at z0 z1 z2 z3 z4 z5 z6 z7 z8 z9 z10 z11 z12 z13 z14
      go_wp2_with fail
      refine bp_gen (fun W => Blk W (b + 1) [.int .i64 (3), .int .i64 (3 + 4 * s0), .int .i64 (3 + 4 * s0 + 16 * s1), .int .i64 (3 + 4 * s0 + 16 * s1 + 64 * s2), .int .i64 (3 + 4 * s0 + 16 * s1 + 64 * s2 + 256 * s3), .int .i64 (3 + 4 * s0 + 16 * s1 + 64 * s2 + 256 * s3 + book), .int .i64 (4 * s0), .int .i64 (16 * s1), .int .i64 (64 * s2), .int .i64 (256 * s3), .int .i64 book, .int .i64 room, .int .i64 al, .int .i64 128, .int .i64 (1 + 4 * docs + 128)] ∧ Keeps (· < b) w W) ⟨?_, ?_⟩ ?_
      · repeat (first | with_reducible refine Blk.drew ?_ | with_reducible refine BlkN.drew ?_ | with_reducible refine BlkN.set15 ?_ _ _ _ _ _ _ _ _ _ _ _ _ _ _ _ | with_reducible refine BlkN.set_ne ?_ _ ?_ | with_reducible exact BlkN.of15 (by with_reducible assumption))
        all_goals (first | (simp; done) | (simp; omega))
      · repeat (first | with_reducible assumption | with_reducible exact Keeps.refl _ _ | with_reducible refine Keeps.drew ?_ | with_reducible refine Keeps.drewN ?_ _ | with_reducible refine Keeps.setCell ?_ ?_ _ | with_reducible refine Keeps.alloc ?_ ?_ _)
        all_goals (first | (simp; done) | (simp; omega) | (intro b hb; first | exact hb | omega | (simp; omega) | (simp only [World.size_alloc]; omega)))
      clear hC0 hD0 hD1 hD2 hkr f1 f2 c0 c1 p0 z0 p1 z1 p2 z2 p3 z3 p4 z4 p5 z5 p6 z6 p7 z7 p8 z8 p9 z9 p10 z10 p11 z11 p12 z12 p13 z13 p14 z14
      rintro W3 ⟨g1, g2⟩
      have p0 := (g1).cell 0
      have p1 := (g1).cell 1
      have p2 := (g1).cell 2
      have p3 := (g1).cell 3
      have p4 := (g1).cell 4
      have p5 := (g1).cell 5
      have p6 := (g1).cell 6
      have p7 := (g1).cell 7
      have p8 := (g1).cell 8
      have p9 := (g1).cell 9
      have p10 := (g1).cell 10
      have p11 := (g1).cell 11
      have p12 := (g1).cell 12
      have p13 := (g1).cell 13
      have p14 := (g1).cell 14
      simp only [List.getElem?_cons_zero, List.getElem?_cons_succ] at p0 p1 p2 p3 p4 p5 p6 p7 p8 p9 p10 p11 p12 p13 p14
      refine bodyPost_ret (v := .tuple #[.agg #[.int .i64 (3), .int .i64 (3 + 4 * s0), .int .i64 (3 + 4 * s0 + 16 * s1), .int .i64 (3 + 4 * s0 + 16 * s1 + 64 * s2), .int .i64 (3 + 4 * s0 + 16 * s1 + 64 * s2 + 256 * s3), .int .i64 (3 + 4 * s0 + 16 * s1 + 64 * s2 + 256 * s3 + book), .int .i64 (4 * s0), .int .i64 (16 * s1), .int .i64 (64 * s2), .int .i64 (256 * s3), .int .i64 book, .int .i64 room, .int .i64 al, .int .i64 128, .int .i64 (1 + 4 * docs + 128)], .int .i64 0]) ?_ rfl ?_
      · simp [results, Tryd.results33, go_sem, p0, p1, p2, p3, p4, p5, p6, p7, p8, p9, p10, p11, p12, p13, p14]
      · refine hR'.out _ _ ⟨?_, g2⟩
        rw [Hal.out]
        unfold ConfM.plan PlanM.val ConfM.all
        simp only [if_neg (show ¬ (256 : Int) ≤ terms by omega), if_neg (show ¬ (128 : Int) ≤ terms by omega)]
end Go.Proofs.YtbmgmjfpoepgpaaDoor
