/- Contracts of package dict: Put, Tail, SetTail. -/
import Derived.Test.YtjnaibmnpajfdaaDict
namespace Go.Proofs.Ytjnaibmnpajfdaa
open Go.RowKit

set_option maxHeartbeats 400000 in
theorem dict_tail {w : World} {K : Nat → Prop} {r m c : Nat} {s : St} (h : RM w K r m c s) (a : Int) :
    Calls Try.prog 50 #[.pointer (some ⟨r, 0, none⟩), .int .i64 a] w fun e w' => e = .returned (.int .i64 (s.load a).1) ∧ RM w' K r m c (s.load a).2 ∧ Keeps K w w' := by
  have hu := h.load_u32 a
  have H := hid h
  clear h
  refine calls_hide fun R' hR' => ?_
  go_enter Try.func50, Try.ntmps50
  go_wp2_with fail
  refine (step_load H.out a).mono ?_
  rintro e w1 ⟨rfl, hr1, hk1⟩
  obtain ⟨u0, u1⟩ := hu
  have Hr1 := hid hr1
  have Hk1 := hid hk1
  clear hr1 hk1
  generalize hls : s.load a = ls at *
  have Hls := hid hls
  clear hls
  go_wp2_with fail
  exact hR'.out _ _ ⟨rfl, Hr1.out, Hk1.out⟩

set_option maxHeartbeats 400000 in
theorem dict_setTail {w : World} {K : Nat → Prop} {r m c : Nat} {s : St} (h : RM w K r m c s) (a v : Int) (hv : U32 v) :
    Calls Try.prog 48 #[.pointer (some ⟨r, 0, none⟩), .int .i64 a, .int .i64 v] w fun e w' => e = .returned (.tuple #[]) ∧ RM w' K r m c (s.store a v) ∧ Keeps K w w' := by
  obtain ⟨v0, v1⟩ := hv
  have H := hid h
  clear h
  refine calls_hide fun R' hR' => ?_
  go_enter Try.func48, Try.ntmps48
  go_wp2_with fail
  refine (step_store H.out a v ⟨v0, v1⟩).mono ?_
  rintro e w1 ⟨rfl, hr1, hk1⟩
  have Hr1 := hid hr1
  have Hk1 := hid hk1
  clear hr1 hk1
  go_wp2_with fail
  go_end0
  exact hR'.out _ _ ⟨rfl, Hr1.out, Hk1.out⟩

set_option maxRecDepth 100000 in
set_option maxHeartbeats 2000000 in
theorem dict_put_full {w : World} {K : Nat → Prop} {r m c : Nat} {s : St} (h : RM w K r m c s) (p : PlanM) (u : V6) (s0 sl : Int) (t : ByteArray) (ht : t.size ≤ 1000)
    (h0 : 0 ≤ u.a4) (hu : u.a4 ≤ p.size.a4) (h2 : p.size.a4 < u.a4 + (2 + ((t.size + 3) / 4 : Nat))) (h3 : p.size.a4 ≤ 65536) :
    Calls Try.prog 72 #[.pointer (some ⟨r, 0, none⟩), p.val, u.val, .int .i64 s0, .int .i64 sl, .string t] w fun e w' =>
      e = .returned (.tuple #[.int .i64 0, V6.val ⟨0, 0, 0, 0, 0, 0⟩, .int .i64 3]) ∧ RM w' K r m c s ∧ Keeps K w w' := by
  have H := hid h
  clear h
  have hP := hid (take_full p u (2 + ((t.size + 3) / 4 : Nat)))
  refine calls_hide fun R' hR' => ?_
  unfold PlanM.val V6.val
  go_enter Try.func72, Try.ntmps72
  go_wp2_with fail
  refine calls_gen (fun W => Blk W w.heap.size [.int .i64 p.base.a0, .int .i64 p.base.a1, .int .i64 p.base.a2, .int .i64 p.base.a3, .int .i64 p.base.a4, .int .i64 p.base.a5, .int .i64 p.size.a0, .int .i64 p.size.a1, .int .i64 p.size.a2, .int .i64 p.size.a3, .int .i64 p.size.a4, .int .i64 p.size.a5, .int .i64 p.cells, .int .i64 p.slots, .int .i64 p.live] ∧
    Blk W (w.heap.size + 1) [.int .i64 u.a0, .int .i64 u.a1, .int .i64 u.a2, .int .i64 u.a3, .int .i64 u.a4, .int .i64 u.a5] ∧ Blk W (w.heap.size + 1 + 1) [.int .i64 0, .int .i64 0, .int .i64 0, .int .i64 0, .int .i64 0, .int .i64 0] ∧ Keeps (· < w.heap.size) w W) ⟨?_, ?_, ?_, ?_⟩ ?_
  · repeat (first | with_reducible assumption | with_reducible exact Blk.new _ _ _ | with_reducible refine Blk.drew ?_ | with_reducible refine Blk.drewN ?_ _ | with_reducible refine Blk.set_ne ?_ _ ?_ | (with_reducible refine Blk.new' _ _ _ ?_; focus (simp; done)) | with_reducible refine Blk.alloc ?_ _)
    all_goals (first | assumption | (simp; done) | (simp; omega))
  · repeat (first | with_reducible assumption | with_reducible exact Blk.new _ _ _ | with_reducible refine Blk.drew ?_ | with_reducible refine Blk.drewN ?_ _ | with_reducible refine Blk.set_ne ?_ _ ?_ | (with_reducible refine Blk.new' _ _ _ ?_; focus (simp; done)) | with_reducible refine Blk.alloc ?_ _)
    all_goals (first | assumption | (simp; done) | (simp; omega))
  · repeat (first | with_reducible assumption | with_reducible exact Blk.new _ _ _ | with_reducible refine Blk.drew ?_ | with_reducible refine Blk.drewN ?_ _ | with_reducible refine Blk.set_ne ?_ _ ?_ | (with_reducible refine Blk.new' _ _ _ ?_; focus (simp; done)) | with_reducible refine Blk.alloc ?_ _)
    all_goals (first | assumption | (simp; done) | (simp; omega))
  · repeat (first | with_reducible assumption | with_reducible exact Keeps.refl _ _ | with_reducible refine Keeps.drew ?_ | with_reducible refine Keeps.drewN ?_ _ | with_reducible refine Keeps.setCell ?_ ?_ _ | with_reducible refine Keeps.alloc ?_ ?_ _)
    all_goals (first | (simp; done) | (simp; omega) | (intro b hb; first | exact hb | omega | (simp; omega) | (simp only [World.size_alloc]; omega)))
  rintro W ⟨hB0, hB1, hB2, hk⟩
  refine (pack_cells t (by omega) _).mono ?_
  rintro e w1 ⟨rfl, hBc, hk1⟩
  have hC0 := hB0.keep hk1 hB0.lt
  have hC1 := hB1.keep hk1 hB1.lt
  have hC2 := hB2.keep hk1 hB2.lt
  have hkk := hk.trans (hk1.mono fun b hb => by have := hB0.lt; omega)
  have hbc := hB2.lt
  generalize W.heap.size = bc at *
  clear hB0 hB1 hB2 hk hk1
  have c0 := (hC0).cell 0
  have c1 := (hC0).cell 1
  have c2 := (hC0).cell 2
  have c3 := (hC0).cell 3
  have c4 := (hC0).cell 4
  have c5 := (hC0).cell 5
  have c6 := (hC0).cell 6
  have c7 := (hC0).cell 7
  have c8 := (hC0).cell 8
  have c9 := (hC0).cell 9
  have c10 := (hC0).cell 10
  have c11 := (hC0).cell 11
  have c12 := (hC0).cell 12
  have c13 := (hC0).cell 13
  have c14 := (hC0).cell 14
  simp only [List.getElem?_cons_zero, List.getElem?_cons_succ] at c0 c1 c2 c3 c4 c5 c6 c7 c8 c9 c10 c11 c12 c13 c14
  have d0 := (hC1).cell 0
  have d1 := (hC1).cell 1
  have d2 := (hC1).cell 2
  have d3 := (hC1).cell 3
  have d4 := (hC1).cell 4
  have d5 := (hC1).cell 5
  simp only [List.getElem?_cons_zero, List.getElem?_cons_succ] at d0 d1 d2 d3 d4 d5
  go_wp2_with fail
  refine (take_full p u _ _ (by omega) (by omega) h0 hu (by omega) h3).mono ?_
  rintro e w2 ⟨rfl, hk2⟩
  unfold V6.val
  clear c0 c1 c2 c3 c4 c5 c6 c7 c8 c9 c10 c11 c12 c13 c14 d0 d1 d2 d3 d4 d5
  have l1 := hC1.lt
  have l2 := hC2.lt
  have l0 := hC0.lt
  have hD1 := hC1.keep hk2 l1
  have hD2 := hC2.keep hk2 l2
  have hkk2 := hkk.trans (hk2.mono fun b hb => by omega)
  have hz2 := hk2.size
  clear hC0 hC1 hC2 hBc hkk hk2
  have d0 := (hD1).cell 0
  have d1 := (hD1).cell 1
  have d2 := (hD1).cell 2
  have d3 := (hD1).cell 3
  have d4 := (hD1).cell 4
  have d5 := (hD1).cell 5
  simp only [List.getElem?_cons_zero, List.getElem?_cons_succ] at d0 d1 d2 d3 d4 d5
  have z0 := (hD2).cell 0
  have z1 := (hD2).cell 1
  have z2 := (hD2).cell 2
  have z3 := (hD2).cell 3
  have z4 := (hD2).cell 4
  have z5 := (hD2).cell 5
  simp only [List.getElem?_cons_zero, List.getElem?_cons_succ] at z0 z1 z2 z3 z4 z5
  have f1 := hD1.free
  have f2 := hD2.free
  go_wp2_with fail
  refine wp_gen (fun W => Blk W (w.heap.size + 1) [.int .i64 0, .int .i64 0, .int .i64 0, .int .i64 0, .int .i64 0, .int .i64 0] ∧ Blk W (w.heap.size + 1 + 1) [.int .i64 0, .int .i64 0, .int .i64 0, .int .i64 0, .int .i64 0, .int .i64 0] ∧ Keeps (· < w.heap.size) w W) ⟨?_, ?_, ?_⟩ ?_
  · first | with_reducible exact Blk.set6 hD1 _ _ _ _ _ _ (by simp) | with_reducible exact (Blk.set6 hD1 _ _ _ _ _ _ (by simp)).drew
  · repeat (first | with_reducible assumption | with_reducible exact Blk.new _ _ _ | with_reducible refine Blk.drew ?_ | with_reducible refine Blk.drewN ?_ _ | with_reducible refine Blk.set_ne ?_ _ ?_ | (with_reducible refine Blk.new' _ _ _ ?_; focus (simp; done)) | with_reducible refine Blk.alloc ?_ _)
    all_goals (first | assumption | (simp; done) | (simp; omega))
  · repeat (first | with_reducible assumption | with_reducible exact Keeps.refl _ _ | with_reducible refine Keeps.drew ?_ | with_reducible refine Keeps.drewN ?_ _ | with_reducible refine Keeps.setCell ?_ ?_ _ | with_reducible refine Keeps.alloc ?_ ?_ _)
    all_goals (first | (simp; done) | (simp; omega) | (intro b hb; first | exact hb | omega | (simp; omega) | (simp only [World.size_alloc]; omega)))
  clear hD1 hD2 hkk2 d0 d1 d2 d3 d4 d5 z0 z1 z2 z3 z4 z5 f1 f2
  rintro W2 ⟨hD1, hD2, hkk2⟩
  have d0 := (hD1).cell 0
  have d1 := (hD1).cell 1
  have d2 := (hD1).cell 2
  have d3 := (hD1).cell 3
  have d4 := (hD1).cell 4
  have d5 := (hD1).cell 5
  simp only [List.getElem?_cons_zero, List.getElem?_cons_succ] at d0 d1 d2 d3 d4 d5
  have z0 := (hD2).cell 0
  have z1 := (hD2).cell 1
  have z2 := (hD2).cell 2
  have z3 := (hD2).cell 3
  have z4 := (hD2).cell 4
  have z5 := (hD2).cell 5
  simp only [List.getElem?_cons_zero, List.getElem?_cons_succ] at z0 z1 z2 z3 z4 z5
  have f2 := hD2.free
  go_region
  go_wp2_with fail
  refine bp_gen (fun W => Blk W (w.heap.size + 1 + 1) [.int .i64 0, .int .i64 0, .int .i64 0, .int .i64 0, .int .i64 0, .int .i64 0] ∧ Keeps (· < w.heap.size) w W) ⟨?_, ?_⟩ ?_
  · first | with_reducible exact Blk.set6 hD2 _ _ _ _ _ _ (by simp) | with_reducible exact (Blk.set6 hD2 _ _ _ _ _ _ (by simp)).drew
  · repeat (first | with_reducible assumption | with_reducible exact Keeps.refl _ _ | with_reducible refine Keeps.drew ?_ | with_reducible refine Keeps.drewN ?_ _ | with_reducible refine Keeps.setCell ?_ ?_ _ | with_reducible refine Keeps.alloc ?_ ?_ _)
    all_goals (first | (simp; done) | (simp; omega) | (intro b hb; first | exact hb | omega | (simp; omega) | (simp only [World.size_alloc]; omega)))
  clear hD1 hD2 hkk2 d0 d1 d2 d3 d4 d5 z0 z1 z2 z3 z4 z5 f2
  rintro W3 ⟨hD2, hkk2⟩
  have d0 := (hD2).cell 0
  have d1 := (hD2).cell 1
  have d2 := (hD2).cell 2
  have d3 := (hD2).cell 3
  have d4 := (hD2).cell 4
  have d5 := (hD2).cell 5
  simp only [List.getElem?_cons_zero, List.getElem?_cons_succ] at d0 d1 d2 d3 d4 d5
  refine bodyPost_ret (v := .tuple #[.int .i64 0, .agg #[.int .i64 0, .int .i64 0, .int .i64 0, .int .i64 0, .int .i64 0, .int .i64 0], .int .i64 3]) ?_ rfl ?_
  · simp [results, Try.results72, go_sem, d0, d1, d2, d3, d4, d5]
  · exact hR'.out _ _ ⟨rfl, H.out.below hkk2, hkk2.mono H.out.lt⟩
set_option maxRecDepth 100000 in
set_option maxHeartbeats 4000000 in
theorem dict_put {w : World} {K : Nat → Prop} {r m c : Nat} {s : St} (h : RM w K r m c s) (p : PlanM) (u : V6) (s0 sl : Int) (t : ByteArray) (ht : t.size ≤ 1000)
    (h0 : 0 ≤ u.a4) (h2 : u.a4 + (2 + ((t.size + 3) / 4 : Nat)) ≤ p.size.a4) (h3 : p.size.a4 ≤ 65536) (hpb : 0 ≤ p.base.a4 ∧ p.base.a4 ≤ 65536) (hs0 : 0 ≤ s0 ∧ s0 ≤ 65536) (hsl : 0 ≤ sl ∧ sl ≤ 65536) :
    Calls Try.prog 72 #[.pointer (some ⟨r, 0, none⟩), p.val, u.val, .int .i64 s0, .int .i64 sl, .string t] w fun e w' =>
      e = .returned (.tuple #[.int .i64 (p.base.a4 + u.a4), V6.val { u with a4 := u.a4 + (2 + ((t.size + 3) / 4 : Nat)) }, .int .i64 0]) ∧
        RM w' K r m c ((putD (p.base.a4 + u.a4) (s0 + sl) t.size (packC (bsL t))).exec s).2 ∧ Keeps K w w' := by
  obtain ⟨b0, b1⟩ := hpb
  obtain ⟨s00, s01⟩ := hs0
  obtain ⟨l00, l01⟩ := hsl
  have hpl : (packC (bsL t)).length = (t.size + 3) / 4 := by rw [packC_len, bsL_len]
  have hpr := packC_range (l := bsL t) (fun x hx => bsL_range t x hx)
  generalize hC : packC (bsL t) = C at *
  generalize hres : (putD (p.base.a4 + u.a4) (s0 + sl) t.size C).exec s = res
  have H := hid h
  have Hpl := hid hpl
  have Hpr := hid hpr
  have HC := hid hC
  have Hres := hid hres
  clear h hpl hpr hC hres
  refine calls_hide fun R' hR' => ?_
  unfold PlanM.val V6.val
  go_enter Try.func72, Try.ntmps72
  go_wp2_with fail
  refine calls_gen (fun W => Blk W w.heap.size [.int .i64 p.base.a0, .int .i64 p.base.a1, .int .i64 p.base.a2, .int .i64 p.base.a3, .int .i64 p.base.a4, .int .i64 p.base.a5, .int .i64 p.size.a0, .int .i64 p.size.a1, .int .i64 p.size.a2, .int .i64 p.size.a3, .int .i64 p.size.a4, .int .i64 p.size.a5, .int .i64 p.cells, .int .i64 p.slots, .int .i64 p.live] ∧
    Blk W (w.heap.size + 1) [.int .i64 u.a0, .int .i64 u.a1, .int .i64 u.a2, .int .i64 u.a3, .int .i64 u.a4, .int .i64 u.a5] ∧ Blk W (w.heap.size + 1 + 1) [.int .i64 0, .int .i64 0, .int .i64 0, .int .i64 0, .int .i64 0, .int .i64 0] ∧ Keeps (· < w.heap.size) w W) ⟨?_, ?_, ?_, ?_⟩ ?_
  · repeat (first | with_reducible assumption | with_reducible exact Blk.new _ _ _ | with_reducible refine Blk.drew ?_ | with_reducible refine Blk.drewN ?_ _ | with_reducible refine Blk.set_ne ?_ _ ?_ | (with_reducible refine Blk.new' _ _ _ ?_; focus (simp; done)) | with_reducible refine Blk.alloc ?_ _)
    all_goals (first | assumption | (simp; done) | (simp; omega))
  · repeat (first | with_reducible assumption | with_reducible exact Blk.new _ _ _ | with_reducible refine Blk.drew ?_ | with_reducible refine Blk.drewN ?_ _ | with_reducible refine Blk.set_ne ?_ _ ?_ | (with_reducible refine Blk.new' _ _ _ ?_; focus (simp; done)) | with_reducible refine Blk.alloc ?_ _)
    all_goals (first | assumption | (simp; done) | (simp; omega))
  · repeat (first | with_reducible assumption | with_reducible exact Blk.new _ _ _ | with_reducible refine Blk.drew ?_ | with_reducible refine Blk.drewN ?_ _ | with_reducible refine Blk.set_ne ?_ _ ?_ | (with_reducible refine Blk.new' _ _ _ ?_; focus (simp; done)) | with_reducible refine Blk.alloc ?_ _)
    all_goals (first | assumption | (simp; done) | (simp; omega))
  · repeat (first | with_reducible assumption | with_reducible exact Keeps.refl _ _ | with_reducible refine Keeps.drew ?_ | with_reducible refine Keeps.drewN ?_ _ | with_reducible refine Keeps.setCell ?_ ?_ _ | with_reducible refine Keeps.alloc ?_ ?_ _)
    all_goals (first | (simp; done) | (simp; omega) | (intro b hb; first | exact hb | omega | (simp; omega) | (simp only [World.size_alloc]; omega)))
  rintro W ⟨hB0, hB1, hB2, hk⟩
  refine (pack_cells t (by omega) _).mono ?_
  rintro e w1 ⟨rfl, hBc, hk1⟩
  have hC0 := hB0.keep hk1 hB0.lt
  have hC1 := hB1.keep hk1 hB1.lt
  have hC2 := hB2.keep hk1 hB2.lt
  have hkk := hk.trans (hk1.mono fun b hb => by have := hB0.lt; omega)
  have hbc := hB2.lt
  generalize W.heap.size = bc at *
  clear hB0 hB1 hB2 hk hk1
  have c0 := (hC0).cell 0
  have c1 := (hC0).cell 1
  have c2 := (hC0).cell 2
  have c3 := (hC0).cell 3
  have c4 := (hC0).cell 4
  have c5 := (hC0).cell 5
  have c6 := (hC0).cell 6
  have c7 := (hC0).cell 7
  have c8 := (hC0).cell 8
  have c9 := (hC0).cell 9
  have c10 := (hC0).cell 10
  have c11 := (hC0).cell 11
  have c12 := (hC0).cell 12
  have c13 := (hC0).cell 13
  have c14 := (hC0).cell 14
  simp only [List.getElem?_cons_zero, List.getElem?_cons_succ] at c0 c1 c2 c3 c4 c5 c6 c7 c8 c9 c10 c11 c12 c13 c14
  have d0 := (hC1).cell 0
  have d1 := (hC1).cell 1
  have d2 := (hC1).cell 2
  have d3 := (hC1).cell 3
  have d4 := (hC1).cell 4
  have d5 := (hC1).cell 5
  simp only [List.getElem?_cons_zero, List.getElem?_cons_succ] at d0 d1 d2 d3 d4 d5
  go_wp2_with fail
  refine (take_book p u _ _ (by omega) h0 (by omega) h3 ⟨b0, b1⟩).mono ?_
  rintro e w2 ⟨rfl, hk2⟩
  unfold V6.val
  clear c0 c1 c2 c3 c4 c5 c6 c7 c8 c9 c10 c11 c12 c13 c14 d0 d1 d2 d3 d4 d5
  have l1 := hC1.lt
  have l2 := hC2.lt
  have l0 := hC0.lt
  have lc := hBc.lt
  have hD1 := hC1.keep hk2 l1
  have hD2 := hC2.keep hk2 l2
  have hDc := hBc.keep hk2 lc
  have hkk2 := hkk.trans (hk2.mono fun b hb => by omega)
  have hz2 := hk2.size
  clear hC0 hC1 hC2 hBc hkk hk2
  rw [HC.out] at hDc
  generalize hU : u.a4 + (2 + ((t.size : Int) + 3) / 4) = u4 at *
  generalize hA : p.base.a4 + u.a4 = ad at *
  have ha0 : 0 ≤ ad ∧ ad ≤ 131072 := by omega
  obtain ⟨a0, a1⟩ := ha0
  have HU := hid hU
  have HA := hid hA
  clear hU hA
  have d0 := (hD1).cell 0
  have d1 := (hD1).cell 1
  have d2 := (hD1).cell 2
  have d3 := (hD1).cell 3
  have d4 := (hD1).cell 4
  have d5 := (hD1).cell 5
  simp only [List.getElem?_cons_zero, List.getElem?_cons_succ] at d0 d1 d2 d3 d4 d5
  have f1 := hD1.free
  go_wp2_with fail
  refine calls_gen (fun W => Blk W (w.heap.size + 1) [.int .i64 u.a0, .int .i64 u.a1, .int .i64 u.a2, .int .i64 u.a3, .int .i64 u4, .int .i64 u.a5] ∧ Blk W (w.heap.size + 1 + 1) [.int .i64 0, .int .i64 0, .int .i64 0, .int .i64 0, .int .i64 0, .int .i64 0] ∧ Blk W bc (C.map (Value.int .u32)) ∧ Keeps (· < w.heap.size) w W) ⟨?_, ?_, ?_, ?_⟩ ?_
  · first | with_reducible exact Blk.set6 hD1 _ _ _ _ _ _ (by simp) | with_reducible exact (Blk.set6 hD1 _ _ _ _ _ _ (by simp)).drew
  · repeat (first | with_reducible assumption | with_reducible exact Blk.new _ _ _ | with_reducible refine Blk.drew ?_ | with_reducible refine Blk.drewN ?_ _ | with_reducible refine Blk.set_ne ?_ _ ?_ | (with_reducible refine Blk.new' _ _ _ ?_; focus (simp; done)) | with_reducible refine Blk.alloc ?_ _)
    all_goals (first | assumption | (simp; done) | (simp; omega))
  · repeat (first | with_reducible assumption | with_reducible exact Blk.new _ _ _ | with_reducible refine Blk.drew ?_ | with_reducible refine Blk.drewN ?_ _ | with_reducible refine Blk.set_ne ?_ _ ?_ | (with_reducible refine Blk.new' _ _ _ ?_; focus (simp; done)) | with_reducible refine Blk.alloc ?_ _)
    all_goals (first | assumption | (simp; done) | (simp; omega))
  · repeat (first | with_reducible assumption | with_reducible exact Keeps.refl _ _ | with_reducible refine Keeps.drew ?_ | with_reducible refine Keeps.drewN ?_ _ | with_reducible refine Keeps.setCell ?_ ?_ _ | with_reducible refine Keeps.alloc ?_ ?_ _)
    all_goals (first | (simp; done) | (simp; omega) | (intro b hb; first | exact hb | omega | (simp; omega) | (simp only [World.size_alloc]; omega)))
  clear hD1 hD2 hDc hkk2 d0 d1 d2 d3 d4 d5 f1
  rintro W2 ⟨hD1, hD2, hDc, hkk2⟩
  have hR2 := H.out.moreB hkk2
  have hKK : ∀ b, K b → (K b ∨ (w.heap.size ≤ b ∧ b < W2.heap.size)) := fun b hb => Or.inl hb
  have hg1 : (K (w.heap.size + 1) ∨ (w.heap.size ≤ w.heap.size + 1 ∧ w.heap.size + 1 < W2.heap.size)) := Or.inr ⟨by omega, hD1.lt⟩
  have hg2 : (K (w.heap.size + 1 + 1) ∨ (w.heap.size ≤ w.heap.size + 1 + 1 ∧ w.heap.size + 1 + 1 < W2.heap.size)) := Or.inr ⟨by omega, hD2.lt⟩
  have hgc : (K bc ∨ (w.heap.size ≤ bc ∧ bc < W2.heap.size)) := Or.inr ⟨by omega, hDc.lt⟩
  have hltw := H.out.lt
  generalize hK1 : (fun b => K b ∨ (w.heap.size ≤ b ∧ b < W2.heap.size)) = K1 at *
  have hKK' : ∀ b, K b → K1 b := by rw [← hK1]; exact hKK
  have hg1' : K1 (w.heap.size + 1) := by rw [← hK1]; exact hg1
  have hg2' : K1 (w.heap.size + 1 + 1) := by rw [← hK1]; exact hg2
  have hgc' : K1 bc := by rw [← hK1]; exact hgc
  have hkw : Keeps K w W2 := hkk2.mono hltw
  clear hKK hg1 hg2 hgc hK1 hkk2 hltw
  have HKK' := hid hKK'
  have Hg1' := hid hg1'
  have Hg2' := hid hg2'
  have Hgc' := hid hgc'
  have Hkw := hid hkw
  have HD1 := hid hD1
  have HD2 := hid hD2
  have HDc := hid hDc
  clear hKK' hg1' hg2' hgc' hkw hD1 hD2 hDc
  refine (step_store hR2 (ad + 1) t.size (by unfold U32; omega)).mono ?_
  rintro e w3 ⟨rfl, hr3, hk3⟩
  have Hr3 := hid hr3
  have Hk3 := hid hk3
  clear hr3 hk3
  clear hR2
  go_wp2_with fail
  have hresC : ((storesD ad (C.drop 0) 0).bind fun _ => Tree.store (s0 + sl) ad (.ret ())).exec (s.store (ad + 1) t.size) = res := Hres.out
  have HresC := hid hresC
  clear hresC
  go_loopw [45] (fun j wr => ∃ (q : Nat) (s3 : St), j = .int .i64 q ∧ q ≤ (t.size + 3) / 4 ∧ RM wr K1 r m c s3 ∧ Keeps K1 W2 wr ∧
    ((storesD ad (C.drop q) q).bind fun _ => Tree.store (s0 + sl) ad (.ret ())).exec s3 = res) (fun j _ => (t.size + 3) / 4 - (intOf j).toNat)
  case atStart => exact ⟨0, _, rfl, Nat.zero_le _, Hr3.out, Hk3.out, HresC.out⟩
  case round =>
    obtain ⟨q, s3, rfl, hq, hR3, hK3, hex3⟩ := hrel
    have HR3 := hid hR3
    have HK3 := hid hK3
    clear hR3 hK3
    by_cases hqlt : q < (t.size + 3) / 4
    · have hCq : q < C.length := by rw [Hpl.out]; exact hqlt
      have hd : C.drop q = C[q] :: C.drop (q + 1) := List.drop_eq_getElem_cons hCq
      have hcell : wr.cell? ⟨bc, q, none⟩ = some (.int .u32 C[q]) := by
        rw [World.cell?_of_block (a := ⟨bc, q, none⟩) (HK3.out.block bc Hgc'.out), HDc.out.cell, List.getElem?_map, List.getElem?_eq_getElem hCq]; rfl
      have hcr := Hpr.out C[q] (List.getElem_mem hCq)
      rw [hd] at hex3
      generalize C[q] = cq at *
      obtain ⟨c0, c1⟩ := hcr
      have hnx : ((storesD ad (C.drop (q + 1)) (q + 1)).bind fun _ => Tree.store (s0 + sl) ad (.ret ())).exec (s3.store (ad + 2 + q) cq) = res := hex3
      have i1 : (q : Int) < ((t.size : Int) + 3) / 4 := by omega
      have Hnx := hid hnx
      clear hnx
      clear hd hCq hex3
      go_wp2_with fail
      refine (step_store HR3.out (ad + 2 + q) cq ⟨c0, c1⟩).mono ?_
      rintro e w6 ⟨rfl, hr6, hk6⟩
      have hk6' := HK3.out.trans hk6
      have Hr6 := hid hr6
      have Hk6' := hid hk6'
      clear hr6 hk6'
      clear hk6
      go_wp2_with fail
      go_roundw
      case rel => exact ⟨q + 1, _, by go_num, by omega, Hr6.out, Hk6'.out, Hnx.out⟩
      case measure => simp [intOf]; omega
    · have hqn : C.drop q = [] := List.drop_of_length_le (by rw [Hpl.out]; omega)
      rw [hqn] at hex3
      have hfin : ((), s3.store (s0 + sl) ad) = res := hex3
      clear hex3 hqn
      have Hfin := hid hfin
      clear hfin
      go_wp2_with fail
      refine (step_store HR3.out (s0 + sl) ad (by unfold U32; omega)).mono ?_
      rintro e w6 ⟨rfl, hr6, hk6⟩
      have hk6' := HK3.out.trans hk6
      have hE1 := HD1.out.keep hk6' Hg1'.out
      have hE2 := HD2.out.keep hk6' Hg2'.out
      have hkf : Keeps K w w6 := Hkw.out.trans (hk6'.mono HKK'.out)
      have hrf : RM w6 K r m c res.2 := by rw [← Hfin.out]; exact hr6.mono HKK'.out
      have hKno : ∀ b, K b → b < w.heap.size := H.out.lt
      have Hkf := hid hkf
      have HKno := hid hKno
      have Hr6 := hid hr6
      clear hkf hKno hr6
      clear hrf hk6 hk6'
      have d0 := (hE1).cell 0
      have d1 := (hE1).cell 1
      have d2 := (hE1).cell 2
      have d3 := (hE1).cell 3
      have d4 := (hE1).cell 4
      have d5 := (hE1).cell 5
      simp only [List.getElem?_cons_zero, List.getElem?_cons_succ] at d0 d1 d2 d3 d4 d5
      have z0 := (hE2).cell 0
      have z1 := (hE2).cell 1
      have z2 := (hE2).cell 2
      have z3 := (hE2).cell 3
      have z4 := (hE2).cell 4
      have z5 := (hE2).cell 5
      simp only [List.getElem?_cons_zero, List.getElem?_cons_succ] at z0 z1 z2 z3 z4 z5
      have f2 := hE2.free
      go_wp2_with fail
      go_region
      go_wp2_with fail
      refine bp_gen (fun W => Blk W (w.heap.size + 1 + 1) [.int .i64 u.a0, .int .i64 u.a1, .int .i64 u.a2, .int .i64 u.a3, .int .i64 u4, .int .i64 u.a5] ∧ Keeps K w W ∧ RM W K1 r m c (s3.store (s0 + sl) ad)) ⟨?_, ?_, ?_⟩ ?_
      · first | with_reducible exact Blk.set6 hE2 _ _ _ _ _ _ (by simp) | with_reducible exact (Blk.set6 hE2 _ _ _ _ _ _ (by simp)).drew
      · repeat (first | with_reducible exact Hkf.out | with_reducible refine Keeps.drew ?_ | with_reducible refine Keeps.setCell ?_ ?_ _)
        all_goals (intro hb; have := HKno.out _ hb; simp at this; omega)
      · repeat (first | with_reducible exact Hr6.out | with_reducible exact Hg2'.out | with_reducible refine RM.drew ?_ | with_reducible refine RM.setK ?_ ?_ _)
        all_goals exact Hg2'.out
      clear hE1 hE2 f2 d0 d1 d2 d3 d4 d5 z0 z1 z2 z3 z4 z5
      rintro W3 ⟨hE2, hkf, hrf⟩
      have d0 := (hE2).cell 0
      have d1 := (hE2).cell 1
      have d2 := (hE2).cell 2
      have d3 := (hE2).cell 3
      have d4 := (hE2).cell 4
      have d5 := (hE2).cell 5
      simp only [List.getElem?_cons_zero, List.getElem?_cons_succ] at d0 d1 d2 d3 d4 d5
      refine bodyPost_ret (v := .tuple #[.int .i64 ad, .agg #[.int .i64 u.a0, .int .i64 u.a1, .int .i64 u.a2, .int .i64 u.a3, .int .i64 u4, .int .i64 u.a5], .int .i64 0]) ?_ rfl ?_
      · simp [results, Try.results72, go_sem, d0, d1, d2, d3, d4, d5]
      · refine hR'.out _ _ ⟨?_, ?_, hkf⟩
        · rw [← HU.out]; simp; rfl
        · rw [← Hfin.out]; exact hrf.mono HKK'.out
end Go.Proofs.Ytjnaibmnpajfdaa
