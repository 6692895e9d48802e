/- The second reference: Slab, Sizes, Lay. -/
import Derived.Test.YtbmgmjfpoepgpaaDoorPool
import Derived.Test.YtbmgmjfpoepgpaaDoorBlk
import Derived.StillTailTactics
namespace Go.Proofs.YtbmgmjfpoepgpaaDoor
open Go.RowKit

structure ConfM where
  docs : Int
  terms : Int
  s0 : Int
  s1 : Int
  s2 : Int
  s3 : Int
  book : Int
  room : Int
  k : Value
  b : Value
def ConfM.list (c : ConfM) : List Value := [.int .i64 c.docs, .int .i64 c.terms, .int .i64 c.s0, .int .i64 c.s1, .int .i64 c.s2, .int .i64 c.s3, .int .i64 c.book, .int .i64 c.room, c.k, c.b]
structure ConfM.ok (c : ConfM) : Prop where
  d0 : 1 ≤ c.docs
  d1 : c.docs ≤ 64
  t0 : 64 ≤ c.terms
  t1 : c.terms ≤ 256
  a0 : 0 ≤ c.s0
  a1 : c.s0 ≤ 512
  b0 : 0 ≤ c.s1
  b1 : c.s1 ≤ 512
  c0 : 0 ≤ c.s2
  c1 : c.s2 ≤ 512
  e0 : 0 ≤ c.s3
  e1 : c.s3 ≤ 512
  k0 : 0 ≤ c.book
  k1 : c.book ≤ 65536
  r0 : 0 ≤ c.room
  r1 : c.room ≤ 65536
def ConfM.all (c : ConfM) : Int := 3 + 4 * c.s0 + 16 * c.s1 + 64 * c.s2 + 256 * c.s3 + c.book + c.room
def ConfM.plan (c : ConfM) : PlanM :=
  ⟨⟨3, 3 + 4 * c.s0, 3 + 4 * c.s0 + 16 * c.s1, 3 + 4 * c.s0 + 16 * c.s1 + 64 * c.s2, 3 + 4 * c.s0 + 16 * c.s1 + 64 * c.s2 + 256 * c.s3, 3 + 4 * c.s0 + 16 * c.s1 + 64 * c.s2 + 256 * c.s3 + c.book⟩,
    ⟨4 * c.s0, 16 * c.s1, 64 * c.s2, 256 * c.s3, c.book, c.room⟩, c.all, if 256 ≤ c.terms then 512 else if 128 ≤ c.terms then 256 else 128, 1 + 4 * c.docs + (if 256 ≤ c.terms then 512 else if 128 ≤ c.terms then 256 else 128)⟩

set_option maxHeartbeats 400000 in
theorem slab_ref (k : Nat) (hk : k ≤ 3) (w : World) :
    Calls Tryd.prog 44 #[.int .i64 k] w fun e w' => e = .returned (.int .i64 ((4 ^ (k + 1) : Nat) : Int)) ∧ w' = w := by
  refine calls_hide fun R' hR' => ?_
  go_enter Tryd.func44, Tryd.ntmps44
  have hk3 : (k : Int) ≤ 3 := by omega
  go_wp2_with fail
  go_loop [3, 4] (fun n i => ∃ j : Nat, j ≤ k ∧ i = .int .i64 j ∧ n = .int .i64 ((4 ^ (j + 1) : Nat) : Int)) (fun _ i => k - (intOf i).toNat)
  case atStart => exact ⟨0, Nat.zero_le _, rfl, rfl⟩
  case round =>
    obtain ⟨j, hj, rfl, rfl⟩ := hrel
    have hp : 4 ^ (j + 1) ≤ 4 ^ 4 := Nat.pow_le_pow_right (by decide) (by omega)
    have hp2 : (4 ^ (j + 1 + 1) : Nat) = 4 ^ (j + 1) * 4 := Nat.pow_succ ..
    generalize hq : 4 ^ (j + 1) = q at *
    have Hq := hid hq
    have Hp2 := hid hp2
    clear hq hp2
    by_cases hlt : j < k
    · go_wp2_with fail
      go_round
      case rel => exact ⟨j + 1, by omega, by go_num, congrArg (Value.int .i64) (by rw [Hp2.out]; omega)⟩
      case measure => simp [intOf]; omega
    · have hjk : j = k := by omega
      subst hjk
      go_wp2_with fail
      exact hR'.out _ _ ⟨by rw [Hq.out], rfl⟩

theorem slab_at0 (w : World) : Calls Tryd.prog 44 #[.int .i64 0] w fun e w' => e = .returned (.int .i64 4) ∧ w' = w := slab_ref 0 (by omega) w
theorem slab_at1 (w : World) : Calls Tryd.prog 44 #[.int .i64 1] w fun e w' => e = .returned (.int .i64 16) ∧ w' = w := slab_ref 1 (by omega) w
theorem slab_at2 (w : World) : Calls Tryd.prog 44 #[.int .i64 2] w fun e w' => e = .returned (.int .i64 64) ∧ w' = w := slab_ref 2 (by omega) w
theorem slab_at3 (w : World) : Calls Tryd.prog 44 #[.int .i64 3] w fun e w' => e = .returned (.int .i64 256) ∧ w' = w := slab_ref 3 (by omega) w

def szC (c : ConfM) : Nat → Int
  | 0 => 4 * c.s0
  | 1 => 16 * c.s1
  | 2 => 64 * c.s2
  | 3 => 256 * c.s3
  | 4 => c.book
  | _ => c.room
def baseC (c : ConfM) : Nat → Int
  | 0 => 3
  | k + 1 => baseC c k + szC c k
def upto (k : Nat) (f : Nat → Int) (j : Nat) : Int := if j < k then f j else 0
def six (f : Nat → Int) : List Value := [.int .i64 (f 0), .int .i64 (f 1), .int .i64 (f 2), .int .i64 (f 3), .int .i64 (f 4), .int .i64 (f 5)]

set_option maxRecDepth 100000 in
set_option maxHeartbeats 2000000 in
theorem sizes_ok (c : ConfM) (h : c.ok) (w : World) :
    Calls Tryd.prog 60 #[.agg c.list.toArray] w fun e w' => e = .returned (.tuple #[.agg (six (szC c)).toArray, .bool (decide (c.all ≤ 65536))]) ∧ Keeps (· < w.heap.size) w w' := by
  obtain ⟨d0, d1, t0, t1, a0, a1, b0, b1, c0, c1, e0, e1, k0, k1, r0, r1⟩ := h
  have hall : baseC c 6 = c.all := by unfold ConfM.all; simp only [baseC, szC]
  have Hall := hid hall
  clear hall
  obtain ⟨docs, terms, s0, s1, s2, s3, book, room, kk, bb⟩ := c
  simp only at d0 d1 t0 t1 a0 a1 b0 b1 c0 c1 e0 e1 k0 k1 r0 r1
  refine calls_hide fun R' hR' => ?_
  unfold ConfM.list
  go_enter Tryd.func60, Tryd.ntmps60
  go_wp2_with fail
  refine wp_gen (fun W => Blk W w.heap.size [.int .i64 docs, .int .i64 terms, .int .i64 s0, .int .i64 s1, .int .i64 s2, .int .i64 s3, .int .i64 book, .int .i64 room, kk, bb] ∧ Blk W (w.heap.size + 1) [.int .i64 0, .int .i64 0, .int .i64 0, .int .i64 0, .int .i64 0, .int .i64 0] ∧
    Blk W (w.heap.size + 1 + 1) [.int .i64 0, .int .i64 0, .int .i64 0, .int .i64 0, .int .i64 0, .int .i64 0] ∧ Keeps (· < w.heap.size) w W) ⟨?_, ?_, ?_, ?_⟩ ?_
  · repeat (first | with_reducible assumption | with_reducible exact Blk.new _ _ _ | with_reducible refine Blk.drew ?_ | with_reducible refine Blk.drewN ?_ _ | with_reducible refine Blk.set_ne ?_ _ ?_ | (with_reducible refine Blk.new' _ _ _ ?_; focus (simp; done)) | with_reducible refine Blk.alloc ?_ _)
    all_goals (first | assumption | (simp; done) | (simp; omega))
  · repeat (first | with_reducible assumption | with_reducible exact Blk.new _ _ _ | with_reducible refine Blk.drew ?_ | with_reducible refine Blk.drewN ?_ _ | with_reducible refine Blk.set_ne ?_ _ ?_ | (with_reducible refine Blk.new' _ _ _ ?_; focus (simp; done)) | with_reducible refine Blk.alloc ?_ _)
    all_goals (first | assumption | (simp; done) | (simp; omega))
  · repeat (first | with_reducible assumption | with_reducible exact Blk.new _ _ _ | with_reducible refine Blk.drew ?_ | with_reducible refine Blk.drewN ?_ _ | with_reducible refine BlkN.set1 ?_ _ | with_reducible refine BlkN.set6 ?_ _ _ _ _ _ _ | with_reducible exact BlkN.of1 (by with_reducible assumption) | with_reducible exact BlkN.of6 (by with_reducible assumption) | with_reducible refine BlkN.drew ?_ | with_reducible refine BlkN.drewN ?_ _ | with_reducible refine BlkN.set_ne ?_ _ ?_ | with_reducible refine BlkN.alloc ?_ _ | with_reducible refine Blk.set_ne ?_ _ ?_ | (with_reducible refine Blk.new' _ _ _ ?_; focus (simp; done)) | with_reducible refine Blk.alloc ?_ _)
    all_goals (first | assumption | (simp; done) | (simp; omega))
  · repeat (first | with_reducible assumption | with_reducible exact Keeps.refl _ _ | with_reducible refine Keeps.drew ?_ | with_reducible refine Keeps.drewN ?_ _ | with_reducible refine Keeps.setCell ?_ ?_ _ | with_reducible refine Keeps.alloc ?_ ?_ _)
    all_goals (first | (simp; done) | (simp; omega) | (intro b hb; first | exact hb | omega | (simp; omega) | (simp only [World.size_alloc]; omega)))
  rintro W ⟨hB0, hB1, hB2, hk⟩
  generalize hb : w.heap.size = b at *
  have Hb := hid hb
  clear hb
  go_loopw [5, 6] (fun all kv wr => ∃ k : Nat, k ≤ 6 ∧ kv = .int .i64 k ∧ all = .int .i64 (baseC ⟨docs, terms, s0, s1, s2, s3, book, room, kk, bb⟩ k) ∧ Blk wr b [.int .i64 docs, .int .i64 terms, .int .i64 s0, .int .i64 s1, .int .i64 s2, .int .i64 s3, .int .i64 book, .int .i64 room, kk, bb] ∧
    Blk wr (b + 1) [.int .i64 0, .int .i64 0, .int .i64 0, .int .i64 0, .int .i64 0, .int .i64 0] ∧ Blk wr (b + 1 + 1) (six (upto k (szC ⟨docs, terms, s0, s1, s2, s3, book, room, kk, bb⟩))) ∧ Keeps (· < b) w wr) (fun _ kv _ => 6 - (intOf kv).toNat)
  case atStart => exact ⟨0, by omega, rfl, rfl, hB0, hB1, hB2, hk⟩
  case round =>
    obtain ⟨k, hk6, rfl, rfl, hC0, hC1, hC2, hkr⟩ := hrel
    clear hB0 hB1 hB2 hk
    have c0 := (hC0).cell 0
    have c1 := (hC0).cell 1
    have c2 := (hC0).cell 2
    have c3 := (hC0).cell 3
    have c4 := (hC0).cell 4
    have c5 := (hC0).cell 5
    have c6 := (hC0).cell 6
    have c7 := (hC0).cell 7
    have c8 := (hC0).cell 8
    have c9 := (hC0).cell 9
    simp only [List.getElem?_cons_zero, List.getElem?_cons_succ] at c0 c1 c2 c3 c4 c5 c6 c7 c8 c9
    rcases (by omega : k = 0 ∨ k = 1 ∨ k = 2 ∨ k = 3 ∨ k = 4 ∨ k = 5 ∨ k = 6) with rfl | rfl | rfl | rfl | rfl | rfl | rfl
    · simp only [baseC, szC, six, upto, Nat.lt_irrefl, Nat.not_lt_zero, if_true, if_false, Nat.zero_lt_succ, Nat.reduceLT] at *
      have z0 := (hC2).cell 0
      have z1 := (hC2).cell 1
      have z2 := (hC2).cell 2
      have z3 := (hC2).cell 3
      have z4 := (hC2).cell 4
      have z5 := (hC2).cell 5
      simp only [List.getElem?_cons_zero, List.getElem?_cons_succ] at z0 z1 z2 z3 z4 z5
      have f2 := hC2.free
      go_wp2_with fail
      refine wp_region_still_tail 9 (by kernel_rfl) (by kernel_rfl) ?_
      simp only [List.take_succ_cons, List.take_zero, List.drop_succ_cons, List.drop_zero]
      have hw1 : IntKind.i64.wrap (s0 * 4) = s0 * 4 := IntWalk.i64_in _ (by omega)
      repeat (first | still_step | still_call (slab_at0 _))
      refine wpStill_nil ?_
      change wpList _ _ _ _ _ wr.drew
      go_wp2_with fail
      go_roundw
      case rel =>
        refine ⟨1, by omega, rfl, congrArg (Value.int .i64) (by simp only [baseC, szC] <;> omega), ?_, ?_, ?_, ?_⟩
        · repeat (first | with_reducible assumption | with_reducible exact Blk.new _ _ _ | with_reducible refine Blk.drew ?_ | with_reducible refine Blk.drewN ?_ _ | with_reducible refine Blk.set_ne ?_ _ ?_ | (with_reducible refine Blk.new' _ _ _ ?_; focus (simp; done)) | with_reducible refine Blk.alloc ?_ _)
          all_goals (first | assumption | (simp; done) | (simp; omega))
        · repeat (first | with_reducible assumption | with_reducible exact Blk.new _ _ _ | with_reducible refine Blk.drew ?_ | with_reducible refine Blk.drewN ?_ _ | with_reducible refine Blk.set_ne ?_ _ ?_ | (with_reducible refine Blk.new' _ _ _ ?_; focus (simp; done)) | with_reducible refine Blk.alloc ?_ _)
          all_goals (first | assumption | (simp; done) | (simp; omega))
        · have hx := hC2.set 0 (.int .i64 (s0 * 4))
          first
            | (refine Blk.drew ?_; simpa [six, upto, szC, Int.mul_comm] using hx)
            | simpa [six, upto, szC, Int.mul_comm] using hx
        · repeat (first | with_reducible assumption | with_reducible exact Keeps.refl _ _ | with_reducible refine Keeps.drew ?_ | with_reducible refine Keeps.drewN ?_ _ | with_reducible refine Keeps.setCell ?_ ?_ _ | with_reducible refine Keeps.alloc ?_ ?_ _)
          all_goals (first | (simp; done) | (simp; omega) | (intro b hb; first | exact hb | omega | (simp; omega) | (simp only [World.size_alloc]; omega)))
      case measure => simp [intOf]
    · simp only [baseC, szC, six, upto, Nat.lt_irrefl, Nat.not_lt_zero, if_true, if_false, Nat.zero_lt_succ, Nat.reduceLT] at *
      have z0 := (hC2).cell 0
      have z1 := (hC2).cell 1
      have z2 := (hC2).cell 2
      have z3 := (hC2).cell 3
      have z4 := (hC2).cell 4
      have z5 := (hC2).cell 5
      simp only [List.getElem?_cons_zero, List.getElem?_cons_succ] at z0 z1 z2 z3 z4 z5
      have f2 := hC2.free
      go_wp2_with fail
      refine wp_region_still_tail 9 (by kernel_rfl) (by kernel_rfl) ?_
      simp only [List.take_succ_cons, List.take_zero, List.drop_succ_cons, List.drop_zero]
      have hw1 : IntKind.i64.wrap (s1 * 16) = s1 * 16 := IntWalk.i64_in _ (by omega)
      repeat (first | still_step | still_call (slab_at1 _))
      refine wpStill_nil ?_
      change wpList _ _ _ _ _ wr.drew
      go_wp2_with fail
      go_roundw
      case rel =>
        refine ⟨2, by omega, rfl, congrArg (Value.int .i64) (by simp only [baseC, szC] <;> omega), ?_, ?_, ?_, ?_⟩
        · repeat (first | with_reducible assumption | with_reducible exact Blk.new _ _ _ | with_reducible refine Blk.drew ?_ | with_reducible refine Blk.drewN ?_ _ | with_reducible refine Blk.set_ne ?_ _ ?_ | (with_reducible refine Blk.new' _ _ _ ?_; focus (simp; done)) | with_reducible refine Blk.alloc ?_ _)
          all_goals (first | assumption | (simp; done) | (simp; omega))
        · repeat (first | with_reducible assumption | with_reducible exact Blk.new _ _ _ | with_reducible refine Blk.drew ?_ | with_reducible refine Blk.drewN ?_ _ | with_reducible refine Blk.set_ne ?_ _ ?_ | (with_reducible refine Blk.new' _ _ _ ?_; focus (simp; done)) | with_reducible refine Blk.alloc ?_ _)
          all_goals (first | assumption | (simp; done) | (simp; omega))
        · have hx := hC2.set 1 (.int .i64 (s1 * 16))
          first
            | (refine Blk.drew ?_; simpa [six, upto, szC, Int.mul_comm] using hx)
            | simpa [six, upto, szC, Int.mul_comm] using hx
        · repeat (first | with_reducible assumption | with_reducible exact Keeps.refl _ _ | with_reducible refine Keeps.drew ?_ | with_reducible refine Keeps.drewN ?_ _ | with_reducible refine Keeps.setCell ?_ ?_ _ | with_reducible refine Keeps.alloc ?_ ?_ _)
          all_goals (first | (simp; done) | (simp; omega) | (intro b hb; first | exact hb | omega | (simp; omega) | (simp only [World.size_alloc]; omega)))
      case measure => simp [intOf]
    · simp only [baseC, szC, six, upto, Nat.lt_irrefl, Nat.not_lt_zero, if_true, if_false, Nat.zero_lt_succ, Nat.reduceLT] at *
      have z0 := (hC2).cell 0
      have z1 := (hC2).cell 1
      have z2 := (hC2).cell 2
      have z3 := (hC2).cell 3
      have z4 := (hC2).cell 4
      have z5 := (hC2).cell 5
      simp only [List.getElem?_cons_zero, List.getElem?_cons_succ] at z0 z1 z2 z3 z4 z5
      have f2 := hC2.free
      go_wp2_with fail
      refine wp_region_still_tail 9 (by kernel_rfl) (by kernel_rfl) ?_
      simp only [List.take_succ_cons, List.take_zero, List.drop_succ_cons, List.drop_zero]
      have hw1 : IntKind.i64.wrap (s2 * 64) = s2 * 64 := IntWalk.i64_in _ (by omega)
      repeat (first | still_step | still_call (slab_at2 _))
      refine wpStill_nil ?_
      change wpList _ _ _ _ _ wr.drew
      go_wp2_with fail
      go_roundw
      case rel =>
        refine ⟨3, by omega, rfl, congrArg (Value.int .i64) (by simp only [baseC, szC] <;> omega), ?_, ?_, ?_, ?_⟩
        · repeat (first | with_reducible assumption | with_reducible exact Blk.new _ _ _ | with_reducible refine Blk.drew ?_ | with_reducible refine Blk.drewN ?_ _ | with_reducible refine Blk.set_ne ?_ _ ?_ | (with_reducible refine Blk.new' _ _ _ ?_; focus (simp; done)) | with_reducible refine Blk.alloc ?_ _)
          all_goals (first | assumption | (simp; done) | (simp; omega))
        · repeat (first | with_reducible assumption | with_reducible exact Blk.new _ _ _ | with_reducible refine Blk.drew ?_ | with_reducible refine Blk.drewN ?_ _ | with_reducible refine Blk.set_ne ?_ _ ?_ | (with_reducible refine Blk.new' _ _ _ ?_; focus (simp; done)) | with_reducible refine Blk.alloc ?_ _)
          all_goals (first | assumption | (simp; done) | (simp; omega))
        · have hx := hC2.set 2 (.int .i64 (s2 * 64))
          first
            | (refine Blk.drew ?_; simpa [six, upto, szC, Int.mul_comm] using hx)
            | simpa [six, upto, szC, Int.mul_comm] using hx
        · repeat (first | with_reducible assumption | with_reducible exact Keeps.refl _ _ | with_reducible refine Keeps.drew ?_ | with_reducible refine Keeps.drewN ?_ _ | with_reducible refine Keeps.setCell ?_ ?_ _ | with_reducible refine Keeps.alloc ?_ ?_ _)
          all_goals (first | (simp; done) | (simp; omega) | (intro b hb; first | exact hb | omega | (simp; omega) | (simp only [World.size_alloc]; omega)))
      case measure => simp [intOf]
    · simp only [baseC, szC, six, upto, Nat.lt_irrefl, Nat.not_lt_zero, if_true, if_false, Nat.zero_lt_succ, Nat.reduceLT] at *
      have z0 := (hC2).cell 0
      have z1 := (hC2).cell 1
      have z2 := (hC2).cell 2
      have z3 := (hC2).cell 3
      have z4 := (hC2).cell 4
      have z5 := (hC2).cell 5
      simp only [List.getElem?_cons_zero, List.getElem?_cons_succ] at z0 z1 z2 z3 z4 z5
      have f2 := hC2.free
      go_wp2_with fail
      refine wp_region_still_tail 9 (by kernel_rfl) (by kernel_rfl) ?_
      simp only [List.take_succ_cons, List.take_zero, List.drop_succ_cons, List.drop_zero]
      have hw1 : IntKind.i64.wrap (s3 * 256) = s3 * 256 := IntWalk.i64_in _ (by omega)
      repeat (first | still_step | still_call (slab_at3 _))
      refine wpStill_nil ?_
      change wpList _ _ _ _ _ wr.drew
      go_wp2_with fail
      go_roundw
      case rel =>
        refine ⟨4, by omega, rfl, congrArg (Value.int .i64) (by simp only [baseC, szC] <;> omega), ?_, ?_, ?_, ?_⟩
        · repeat (first | with_reducible assumption | with_reducible exact Blk.new _ _ _ | with_reducible refine Blk.drew ?_ | with_reducible refine Blk.drewN ?_ _ | with_reducible refine Blk.set_ne ?_ _ ?_ | (with_reducible refine Blk.new' _ _ _ ?_; focus (simp; done)) | with_reducible refine Blk.alloc ?_ _)
          all_goals (first | assumption | (simp; done) | (simp; omega))
        · repeat (first | with_reducible assumption | with_reducible exact Blk.new _ _ _ | with_reducible refine Blk.drew ?_ | with_reducible refine Blk.drewN ?_ _ | with_reducible refine Blk.set_ne ?_ _ ?_ | (with_reducible refine Blk.new' _ _ _ ?_; focus (simp; done)) | with_reducible refine Blk.alloc ?_ _)
          all_goals (first | assumption | (simp; done) | (simp; omega))
        · have hx := hC2.set 3 (.int .i64 (s3 * 256))
          first
            | (refine Blk.drew ?_; simpa [six, upto, szC, Int.mul_comm] using hx)
            | simpa [six, upto, szC, Int.mul_comm] using hx
        · repeat (first | with_reducible assumption | with_reducible exact Keeps.refl _ _ | with_reducible refine Keeps.drew ?_ | with_reducible refine Keeps.drewN ?_ _ | with_reducible refine Keeps.setCell ?_ ?_ _ | with_reducible refine Keeps.alloc ?_ ?_ _)
          all_goals (first | (simp; done) | (simp; omega) | (intro b hb; first | exact hb | omega | (simp; omega) | (simp only [World.size_alloc]; omega)))
      case measure => simp [intOf]
    · simp only [baseC, szC, six, upto, Nat.lt_irrefl, Nat.not_lt_zero, if_true, if_false, Nat.zero_lt_succ, Nat.reduceLT] at *
      have z0 := (hC2).cell 0
      have z1 := (hC2).cell 1
      have z2 := (hC2).cell 2
      have z3 := (hC2).cell 3
      have z4 := (hC2).cell 4
      have z5 := (hC2).cell 5
      simp only [List.getElem?_cons_zero, List.getElem?_cons_succ] at z0 z1 z2 z3 z4 z5
      have f2 := hC2.free
      go_wp2_with fail
      go_roundw
      case rel =>
        refine ⟨5, by omega, rfl, congrArg (Value.int .i64) (by simp only [baseC, szC] <;> omega), ?_, ?_, ?_, ?_⟩
        · repeat (first | with_reducible assumption | with_reducible exact Blk.new _ _ _ | with_reducible refine Blk.drew ?_ | with_reducible refine Blk.drewN ?_ _ | with_reducible refine Blk.set_ne ?_ _ ?_ | (with_reducible refine Blk.new' _ _ _ ?_; focus (simp; done)) | with_reducible refine Blk.alloc ?_ _)
          all_goals (first | assumption | (simp; done) | (simp; omega))
        · repeat (first | with_reducible assumption | with_reducible exact Blk.new _ _ _ | with_reducible refine Blk.drew ?_ | with_reducible refine Blk.drewN ?_ _ | with_reducible refine Blk.set_ne ?_ _ ?_ | (with_reducible refine Blk.new' _ _ _ ?_; focus (simp; done)) | with_reducible refine Blk.alloc ?_ _)
          all_goals (first | assumption | (simp; done) | (simp; omega))
        · have hx := hC2.set 4 (.int .i64 (book))
          first
            | (refine Blk.drew ?_; simpa [six, upto, szC, Int.mul_comm] using hx)
            | simpa [six, upto, szC, Int.mul_comm] using hx
        · repeat (first | with_reducible assumption | with_reducible exact Keeps.refl _ _ | with_reducible refine Keeps.drew ?_ | with_reducible refine Keeps.drewN ?_ _ | with_reducible refine Keeps.setCell ?_ ?_ _ | with_reducible refine Keeps.alloc ?_ ?_ _)
          all_goals (first | (simp; done) | (simp; omega) | (intro b hb; first | exact hb | omega | (simp; omega) | (simp only [World.size_alloc]; omega)))
      case measure => simp [intOf]
    · simp only [baseC, szC, six, upto, Nat.lt_irrefl, Nat.not_lt_zero, if_true, if_false, Nat.zero_lt_succ, Nat.reduceLT] at *
      have z0 := (hC2).cell 0
      have z1 := (hC2).cell 1
      have z2 := (hC2).cell 2
      have z3 := (hC2).cell 3
      have z4 := (hC2).cell 4
      have z5 := (hC2).cell 5
      simp only [List.getElem?_cons_zero, List.getElem?_cons_succ] at z0 z1 z2 z3 z4 z5
      have f2 := hC2.free
      go_wp2_with fail
      go_roundw
      case rel =>
        refine ⟨6, by omega, rfl, congrArg (Value.int .i64) (by simp only [baseC, szC] <;> omega), ?_, ?_, ?_, ?_⟩
        · repeat (first | with_reducible assumption | with_reducible exact Blk.new _ _ _ | with_reducible refine Blk.drew ?_ | with_reducible refine Blk.drewN ?_ _ | with_reducible refine Blk.set_ne ?_ _ ?_ | (with_reducible refine Blk.new' _ _ _ ?_; focus (simp; done)) | with_reducible refine Blk.alloc ?_ _)
          all_goals (first | assumption | (simp; done) | (simp; omega))
        · repeat (first | with_reducible assumption | with_reducible exact Blk.new _ _ _ | with_reducible refine Blk.drew ?_ | with_reducible refine Blk.drewN ?_ _ | with_reducible refine Blk.set_ne ?_ _ ?_ | (with_reducible refine Blk.new' _ _ _ ?_; focus (simp; done)) | with_reducible refine Blk.alloc ?_ _)
          all_goals (first | assumption | (simp; done) | (simp; omega))
        · have hx := hC2.set 5 (.int .i64 (room))
          first
            | (refine Blk.drew ?_; simpa [six, upto, szC, Int.mul_comm] using hx)
            | simpa [six, upto, szC, Int.mul_comm] using hx
        · repeat (first | with_reducible assumption | with_reducible exact Keeps.refl _ _ | with_reducible refine Keeps.drew ?_ | with_reducible refine Keeps.drewN ?_ _ | with_reducible refine Keeps.setCell ?_ ?_ _ | with_reducible refine Keeps.alloc ?_ ?_ _)
          all_goals (first | (simp; done) | (simp; omega) | (intro b hb; first | exact hb | omega | (simp; omega) | (simp only [World.size_alloc]; omega)))
      case measure => simp [intOf]
    · rw [Hall.out]
      generalize ConfM.all ⟨docs, terms, s0, s1, s2, s3, book, room, kk, bb⟩ = al at *
      simp only [six, upto, szC, if_true, Nat.reduceLT] at hC2
      have z0 := (hC2).cell 0
      have z1 := (hC2).cell 1
      have z2 := (hC2).cell 2
      have z3 := (hC2).cell 3
      have z4 := (hC2).cell 4
      have z5 := (hC2).cell 5
      simp only [List.getElem?_cons_zero, List.getElem?_cons_succ] at z0 z1 z2 z3 z4 z5
      have d0 := (hC1).cell 0
      have d1 := (hC1).cell 1
      have d2 := (hC1).cell 2
      have d3 := (hC1).cell 3
      have d4 := (hC1).cell 4
      have d5 := (hC1).cell 5
      simp only [List.getElem?_cons_zero, List.getElem?_cons_succ] at d0 d1 d2 d3 d4 d5
      have f1 := hC1.free
      clear c0 c1 c2 c3 c4 c5 c6 c7 c8 c9
      go_wp2_with fail
      refine bp_gen (fun W => Blk W (b + 1) [.int .i64 (4 * s0), .int .i64 (16 * s1), .int .i64 (64 * s2), .int .i64 (256 * s3), .int .i64 book, .int .i64 room] ∧ Keeps (· < b) w W) ⟨?_, ?_⟩ ?_
      · repeat (first | with_reducible assumption | with_reducible exact Blk.new _ _ _ | with_reducible refine Blk.drew ?_ | with_reducible refine Blk.drewN ?_ _ | with_reducible refine BlkN.set1 ?_ _ | with_reducible refine BlkN.set6 ?_ _ _ _ _ _ _ | with_reducible exact BlkN.of1 (by with_reducible assumption) | with_reducible exact BlkN.of6 (by with_reducible assumption) | with_reducible refine BlkN.drew ?_ | with_reducible refine BlkN.drewN ?_ _ | with_reducible refine BlkN.set_ne ?_ _ ?_ | with_reducible refine BlkN.alloc ?_ _ | with_reducible refine Blk.set_ne ?_ _ ?_ | (with_reducible refine Blk.new' _ _ _ ?_; focus (simp; done)) | with_reducible refine Blk.alloc ?_ _)
        all_goals (first | assumption | (simp; done) | (simp; omega))
      · repeat (first | with_reducible assumption | with_reducible exact Keeps.refl _ _ | with_reducible refine Keeps.drew ?_ | with_reducible refine Keeps.drewN ?_ _ | with_reducible refine Keeps.setCell ?_ ?_ _ | with_reducible refine Keeps.alloc ?_ ?_ _)
        all_goals (first | (simp; done) | (simp; omega) | (intro b hb; first | exact hb | omega | (simp; omega) | (simp only [World.size_alloc]; omega)))
      clear z0 z1 z2 z3 z4 z5 d0 d1 d2 d3 d4 d5 f1 hC0 hC1 hC2 hkr
      rintro W2 ⟨g1, g2⟩
      have d0 := (g1).cell 0
      have d1 := (g1).cell 1
      have d2 := (g1).cell 2
      have d3 := (g1).cell 3
      have d4 := (g1).cell 4
      have d5 := (g1).cell 5
      simp only [List.getElem?_cons_zero, List.getElem?_cons_succ] at d0 d1 d2 d3 d4 d5
      refine bodyPost_ret (v := .tuple #[.agg #[.int .i64 (4 * s0), .int .i64 (16 * s1), .int .i64 (64 * s2), .int .i64 (256 * s3), .int .i64 book, .int .i64 room], .bool (decide (al ≤ 65536))]) ?_ rfl ?_
      · simp [results, Tryd.results60, go_sem, d0, d1, d2, d3, d4, d5]
      · exact hR'.out _ _ ⟨rfl, g2⟩
end Go.Proofs.YtbmgmjfpoepgpaaDoor
