/- Contracts of the references: Right, Need. Printed by gen/refn.py. -/
import Derived.Test.YtbmgmjfpoepgpaaDoorRef09
namespace Go.Proofs.YtbmgmjfpoepgpaaDoor
open Go.RowKit

set_option maxRecDepth 100000 in
set_option maxHeartbeats 4000000 in
theorem right_call (p : PlanM) (P : Pools) (hP : P.ok) (hl : p.lays P) (t : Int) (w : World) (ha : -9223372036854775808 ≤ t ∧ t ≤ 9223372036854775807) :
    Calls Tryd.prog 42 #[p.val, .int .i64 t] w fun e w' => e = .returned (.bool (p.next t).2) ∧ Keeps (· < w.heap.size) w w' := by
  have hcl := fun w => class_ref p P hP hl t w ha
  have hrg := p.cls_range t
  have hmd := fun k h => @cls_mod p t k h
  have hnx : (p.next t).2 = decide (t = 0 ∨ ((p.cls t).1 ≥ 0 ∧ (p.cls t).2 > 0)) := by
    rcases hrg with h | ⟨k, hk, h⟩
    · unfold PlanM.next
      by_cases h0 : t = 0
      · rw [if_pos h0]; simp [h0]
      · rw [if_neg h0]; rw [if_pos (by omega)]; simp; omega
    · have hm := hmd k h
      unfold PlanM.next
      by_cases h0 : t = 0
      · rw [if_pos h0]; simp [h0]
      · rw [if_neg h0]
        by_cases h1 : (p.cls t).2 = 0
        · rw [if_pos (Or.inr h1)]; simp; omega
        · rw [if_neg (by omega)]
          split <;> simp <;> omega
  rw [hnx]
  clear hnx hmd hrg hP hl
  refine calls_hide fun R' hR' => ?_
  generalize p.cls t = cl at *
  obtain ⟨c1, c2⟩ := cl
  simp only at hR'
  unfold PlanM.val at *
  have HCL := hid hcl
  clear hcl
  go_enter Tryd.func42, Tryd.ntmps42
  go_wp2_with fail
  refine (HCL.out _).mono ?_
  rintro e w1 ⟨rfl, hk1⟩
  have hk : Keeps (· < w.heap.size) w w1 := ((Keeps.refl _ _).alloc (fun b hb => hb) _).trans (hk1.mono fun b hb => by simp only [World.size_alloc]; omega)
  clear hk1
  have Hk := hid hk
  clear hk
  by_cases h0 : t = 0
  · have g0 : (t == 0) = true := by simpa using h0
    have HD := hid (decide_eq_true (show t = 0 ∨ (c1 ≥ 0 ∧ c2 > 0) from Or.inl h0))
    clear h0
    go_wp2_with fail
    exact hR'.out _ _ ⟨by rw [HD.out] <;> rfl, Hk.out⟩
  · have g0 : (t == 0) = false := by simpa using h0
    by_cases h1 : c1 ≥ 0
    · have g1 : decide (c1 ≥ 0) = true := decide_eq_true h1
      by_cases h2 : c2 > 0
      · have g2 : decide (c2 > 0) = true := decide_eq_true h2
        have HD := hid (decide_eq_true (show t = 0 ∨ (c1 ≥ 0 ∧ c2 > 0) from Or.inr ⟨h1, h2⟩))
        clear h0 h1 h2
        go_wp2_with fail
        exact hR'.out _ _ ⟨by rw [HD.out] <;> rfl, Hk.out⟩
      · have g2 : decide (c2 > 0) = false := decide_eq_false h2
        have HD := hid (decide_eq_false (show ¬ (t = 0 ∨ (c1 ≥ 0 ∧ c2 > 0)) from by omega))
        clear h0 h1 h2
        go_wp2_with fail
        exact hR'.out _ _ ⟨by rw [HD.out] <;> rfl, Hk.out⟩
    · have g1 : decide (c1 ≥ 0) = false := decide_eq_false h1
      have HD := hid (decide_eq_false (show ¬ (t = 0 ∨ (c1 ≥ 0 ∧ c2 > 0)) from by omega))
      clear h0 h1
      go_wp2_with fail
      exact hR'.out _ _ ⟨by rw [HD.out] <;> rfl, Hk.out⟩

/-- what the reference's Need answers -/
def PlanM.needRef (p : PlanM) (t n : Int) : V6 :=
  if (p.next t).2 = false then zerosN
  else if t = 0 then refL n.toNat 0 0 zerosN
  else refL n.toNat (szK (p.cls t).1.toNat - 1 - (p.cls t).2).toNat (min ((p.cls t).1.toNat + 1) 3) zerosN
theorem need_eq (p : PlanM) (t n : Int) : p.need t n = p.needRef t n := by
  unfold PlanM.need PlanM.needRef
  by_cases h : (p.next t).2 = false
  · rw [if_pos h, if_pos h]
  · rw [if_neg h, if_neg h]
    have h2 : (p.next t).2 = true := by simpa using h
    have key : ∀ (room k : Nat) , k ≤ 3 → needL (n.toNat + 2) n room k zerosN = refL n.toNat room k zerosN := by
      intro room k hk
      by_cases hn : 0 ≤ n
      · obtain ⟨m, rfl⟩ : ∃ m : Nat, n = m := ⟨n.toNat, by omega⟩
        exact needL_ref _ _ _ _ _ hk (by simp only [Int.toNat_natCast]; split <;> omega)
      · rw [needL_neg _ _ _ _ _ (by omega) (by omega), show n.toNat = 0 from by omega]; rfl
    rcases next_range p t h2 with ⟨h3, k, hk, hc, m0, m1⟩ | ⟨k, hk, h3⟩
    · rw [if_pos (by omega)]
      have ht : t ≠ 0 := by
        rintro rfl
        unfold PlanM.next at h3
        rw [if_pos rfl] at h3
        simp at h3
      rw [if_neg ht, hc, show ((k : Int)).toNat = k from by omega]
      have hz := szK_bd k
      have := key (szK k - 1 - (p.cls t).2).toNat (min (k + 1) 3) (by omega)
      rw [Int.toNat_of_nonneg (by omega)] at this
      exact this
    · rw [if_neg (by omega), h3, show ((k : Int)).toNat = k from by omega]
      by_cases ht : t = 0
      · rw [if_pos ht]
        have hk0 : k = 0 := by
          unfold PlanM.next at h3
          rw [if_pos ht] at h3
          simp at h3; omega
        subst hk0
        exact key 0 0 (by omega)
      · rw [if_neg ht]
        have hr := p.cls_range t
        unfold PlanM.next at h3 h2
        rw [if_neg ht] at h3 h2
        by_cases h5 : (p.cls t).1 < 0 ∨ (p.cls t).2 = 0
        · rw [if_pos h5] at h2; cases h2
        · rw [if_neg h5] at h3 h2
          rcases hr with e | ⟨k', hk', e⟩
          · exact absurd (Or.inl (by omega)) h5
          · rw [e, show ((k' : Int)).toNat = k' from by omega] at h3 ⊢
            by_cases h6 : (p.cls t).2 = szK k' - 1
            · rw [if_pos h6] at h3
              simp only at h3
              rw [show k = min (k' + 1) 3 from by split at h3 <;> omega, h6, show (szK k' - 1 - (szK k' - 1)).toNat = 0 from by omega]
              exact key 0 _ (by omega)
            · rw [if_neg h6] at h3
              simp only at h3
              omega


set_option maxRecDepth 100000 in
set_option maxHeartbeats 8000000 in
theorem need_ref (p : PlanM) (P : Pools) (hP : P.ok) (hl : p.lays P) (t n : Int) (w : World) (ha : -9223372036854775808 ≤ t ∧ t ≤ 9223372036854775807) (hn : -9223372036854775808 ≤ n ∧ n ≤ 3000) :
    Calls Tryd.prog 15 #[p.val, .int .i64 t, .int .i64 n] w fun e w' => e = .returned (p.needRef t n).val ∧ Keeps (· < w.heap.size) w w' := by
  obtain ⟨n0, n1⟩ := hn
  have hrt := fun w => right_call p P hP hl t w ha
  have hcl := fun w => class_ref p P hP hl t w ha
  have hrg := p.cls_range t
  have hmd := fun k h => @cls_mod p t k h
  have hnc : (p.next t).2 = true → t ≠ 0 → (p.cls t).1 ≥ 0 := by
    intro h h0
    unfold PlanM.next at h
    rw [if_neg h0] at h
    by_cases h5 : (p.cls t).1 < 0 ∨ (p.cls t).2 = 0
    · rw [if_pos h5] at h; cases h
    · omega
  clear hP hl ha
  refine calls_hide fun R' hR' => ?_
  unfold PlanM.needRef at hR'
  generalize (p.next t).2 = x2 at *
  generalize p.cls t = cl at *
  obtain ⟨c1, c2⟩ := cl
  simp only at hR' hrg hmd hnc
  unfold PlanM.val at *
  have HRT := hid hrt
  have HCL := hid hcl
  have HRG := hid hrg
  have HMD := hid hmd
  have HNC := hid hnc
  clear hrt hcl hrg hmd hnc
  go_enter Tryd.func15, Tryd.ntmps15
  go_wp2_with fail
  refine calls_gen (fun W => Blk W w.heap.size p.flat ∧ Blk W (w.heap.size + 1) [.int .i64 0, .int .i64 0, .int .i64 0, .int .i64 0, .int .i64 0, .int .i64 0] ∧ Blk W (w.heap.size + 1 + 1) [.int .i64 0, .int .i64 0, .int .i64 0, .int .i64 0, .int .i64 0, .int .i64 0] ∧ Keeps (· < w.heap.size) w W) ⟨?_, ?_, ?_, ?_⟩ (fun W0 HW => ?_)
  · have h0 := Blk.new w p.flat 29
    repeat (first | exact h0 | refine Blk.alloc ?_ _)
  · repeat (first | with_reducible assumption | with_reducible exact Blk.new _ _ _ | with_reducible refine Blk.drew ?_ | with_reducible refine Blk.drewN ?_ _ | with_reducible refine BlkN.set1 ?_ _ | with_reducible refine BlkN.set6 ?_ _ _ _ _ _ _ | with_reducible exact BlkN.of1 (by with_reducible assumption) | with_reducible exact BlkN.of6 (by with_reducible assumption) | with_reducible refine BlkN.drew ?_ | with_reducible refine BlkN.drewN ?_ _ | with_reducible refine BlkN.set_ne ?_ _ ?_ | with_reducible refine BlkN.alloc ?_ _ | with_reducible refine Blk.set_ne ?_ _ ?_ | (with_reducible refine Blk.new' _ _ _ ?_; focus (simp; done)) | with_reducible refine Blk.alloc ?_ _)
    all_goals (first | assumption | (simp; done) | (simp; omega))
  · repeat (first | with_reducible assumption | with_reducible exact Blk.new _ _ _ | with_reducible refine Blk.drew ?_ | with_reducible refine Blk.drewN ?_ _ | with_reducible refine BlkN.set1 ?_ _ | with_reducible refine BlkN.set6 ?_ _ _ _ _ _ _ | with_reducible exact BlkN.of1 (by with_reducible assumption) | with_reducible exact BlkN.of6 (by with_reducible assumption) | with_reducible refine BlkN.drew ?_ | with_reducible refine BlkN.drewN ?_ _ | with_reducible refine BlkN.set_ne ?_ _ ?_ | with_reducible refine BlkN.alloc ?_ _ | with_reducible refine Blk.set_ne ?_ _ ?_ | (with_reducible refine Blk.new' _ _ _ ?_; focus (simp; done)) | with_reducible refine Blk.alloc ?_ _)
    all_goals (first | assumption | (simp; done) | (simp; omega))
  · repeat (first | with_reducible assumption | with_reducible exact Keeps.refl _ _ | with_reducible refine Keeps.drew ?_ | with_reducible refine Keeps.drewN ?_ _ | with_reducible refine Keeps.setCell ?_ ?_ _ | with_reducible refine Keeps.alloc ?_ ?_ _)
    all_goals (first | (simp; done) | (simp; omega) | (intro b hb; first | exact hb | omega | (simp; omega) | (simp only [World.size_alloc]; omega)))
  obtain ⟨hA0, hA1, hA2, hkA⟩ := HW
  refine (HRT.out W0).mono ?_
  rintro e w1 ⟨rfl, hk1⟩
  have hB0 := hA0.keep hk1 hA0.lt
  have hB1 := hA1.keep hk1 hA1.lt
  have hB2 := hA2.keep hk1 hA2.lt
  have hkw := hkA.trans (hk1.mono fun b hb => by have := hkA.size; omega)
  clear hA0 hA1 hA2 hkA hk1
  generalize hBB : w.heap.size = B at *
  have HBB := hid hBB
  clear hBB
  cases x2 with
  | false =>
    rw [if_pos rfl] at hR'
    have d0 := (hB1).cell 0
    have d1 := (hB1).cell 1
    have d2 := (hB1).cell 2
    have d3 := (hB1).cell 3
    have d4 := (hB1).cell 4
    have d5 := (hB1).cell 5
    simp only [List.getElem?_cons_zero, List.getElem?_cons_succ] at d0 d1 d2 d3 d4 d5
    have z0 := (hB2).cell 0
    have z1 := (hB2).cell 1
    have z2 := (hB2).cell 2
    have z3 := (hB2).cell 3
    have z4 := (hB2).cell 4
    have z5 := (hB2).cell 5
    simp only [List.getElem?_cons_zero, List.getElem?_cons_succ] at z0 z1 z2 z3 z4 z5
    have f1 := hB1.free
    go_wp2_with fail
    refine bp_gen (fun W => Blk W (B + 1) [.int .i64 0, .int .i64 0, .int .i64 0, .int .i64 0, .int .i64 0, .int .i64 0] ∧ Keeps (· < B) w W) ⟨?_, ?_⟩ ?_
    · first | with_reducible exact Blk.set6 hB1 _ _ _ _ _ _ (by simp) | with_reducible exact (Blk.set6 hB1 _ _ _ _ _ _ (by simp)).drew
    · repeat (first | with_reducible assumption | with_reducible exact Keeps.refl _ _ | with_reducible refine Keeps.drew ?_ | with_reducible refine Keeps.drewN ?_ _ | with_reducible refine Keeps.setCell ?_ ?_ _ | with_reducible refine Keeps.alloc ?_ ?_ _)
      all_goals (first | (simp; done) | (simp; omega) | (intro b hb; first | exact hb | omega | (simp; omega) | (simp only [World.size_alloc]; omega)))
    clear hB0 hB1 hB2 hkw d0 d1 d2 d3 d4 d5 z0 z1 z2 z3 z4 z5 f1
    rintro W2 ⟨g1, g2⟩
    have d0 := (g1).cell 0
    have d1 := (g1).cell 1
    have d2 := (g1).cell 2
    have d3 := (g1).cell 3
    have d4 := (g1).cell 4
    have d5 := (g1).cell 5
    simp only [List.getElem?_cons_zero, List.getElem?_cons_succ] at d0 d1 d2 d3 d4 d5
    refine bodyPost_ret (v := .agg #[.int .i64 0, .int .i64 0, .int .i64 0, .int .i64 0, .int .i64 0, .int .i64 0]) ?_ rfl ?_
    · simp [results, Tryd.results15, go_sem, d0, d1, d2, d3, d4, d5]
    · exact hR'.out _ _ ⟨rfl, g2⟩
  | true =>
    rw [if_neg (by decide)] at hR'
    by_cases h0 : t = 0
    · rw [if_pos h0] at hR'
      have g0 : (t != 0) = false := by simp [h0]
      have g6 : decide (n > 1000000) = false := decide_eq_false (by omega)
      have HRK := hid (show (0 : Int) = ((0 : Nat) : Int) ∧ 0 ≤ 256 ∧ 0 ≤ 3 ∧ (0 : Int) = ((0 : Nat) : Int) from ⟨rfl, by omega, by omega, rfl⟩)
      clear hB0 h0
      go_wp2_with fail
      have HB1 := hid hB1
      have Hkw := hid hkw
      have hB2' := hB2
      clear hB1 hkw hB2
      go_loopw [8, 9, 12] (fun vl vk vi wr => ∃ (i m lf k' : Nat) (o : V6), vl = .int .i64 (lf : Int) ∧ vk = .int .i64 (k' : Int) ∧ vi = .int .i64 (i : Int) ∧ k' ≤ 3 ∧ lf ≤ 256 ∧ i + m = n.toNat ∧
        Hid (Blk wr (B + 1 + 1) [.int .i64 o.a0, .int .i64 o.a1, .int .i64 o.a2, .int .i64 o.a3, .int .i64 o.a4, .int .i64 o.a5] ∧ Keeps (fun b => b < w1.heap.size ∧ b ≠ B + 1 + 1) w1 wr ∧ (∀ j, j ≤ 3 → 0 ≤ o.uK j ∧ o.uK j + 256 * m ≤ 10000000) ∧ refL m lf k' o = refL n.toNat 0 0 zerosN)) (fun _ _ vi _ => n.toNat - (intOf vi).toNat)
      case atStart => exact ⟨0, n.toNat, 0, 0, zerosN, by first | rfl | go_num | (have hx := HRK.out; congr 1; omega), by first | rfl | go_num | (have hx := HRK.out; congr 1; omega), rfl, HRK.out.2.2.1, HRK.out.2.1, by omega, hid ⟨hB2', Keeps.refl _ _, fun i hi => by rw [zerosN_uK]; omega, rfl⟩⟩
      case round =>
        obtain ⟨i, m, lf, k', o, rfl, rfl, rfl, hk', hlf, him, HI⟩ := hrel
        by_cases hlt : (i : Int) < n
        · obtain ⟨m, rfl⟩ : ∃ g, m = g + 1 := ⟨m - 1, by omega⟩
          obtain ⟨hO, hKO, hbd, hres⟩ := HI.out
          have HIM := hid (show i + 1 + m = n.toNat from by omega)
          have HKO := hid hKO
          have hi3 : i < 3000 := by omega
          by_cases hl0 : lf = 0
          · rw [show refL (m + 1) lf k' o = refL m (sz k' - 2) (min (k' + 1) 3) (o.up k' (szK k')) from by rw [refL, if_pos hl0]] at hres
            have HRQ := hid hres
            have gl : ((lf : Int) == 0) = true := by simp [hl0]
            have hbk := hbd k' hk'
            have hszb := szK_bd k'
            have HBD := hid (show ∀ j, j ≤ 3 → 0 ≤ (o.up k' (szK k')).uK j ∧ (o.up k' (szK k')).uK j + 256 * m ≤ 10000000 from by
              intro j hj
              have := hbd j hj
              rw [uK_up hk' hj]
              split <;> omega)
            have hcases : k' = 0 ∨ k' = 1 ∨ k' = 2 ∨ k' = 3 := by omega
            have HLT := hid hlt
            clear hres hbd hKO HI hk' him hl0 hlf
            rcases hcases with rfl | rfl | rfl | rfl
            · have z0 := (hO).cell 0
              have z1 := (hO).cell 1
              have z2 := (hO).cell 2
              have z3 := (hO).cell 3
              have z4 := (hO).cell 4
              have z5 := (hO).cell 5
              simp only [List.getElem?_cons_zero, List.getElem?_cons_succ] at z0 z1 z2 z3 z4 z5
              have f1 := hO.free
              have hsl : Calls Tryd.prog 44 #[.int .i64 ((0 : Nat) : Int)] wr.drew fun e w' => e = .returned (.int .i64 4) ∧ w' = wr.drew := slab_at0 wr.drew
              simp only [szK] at hszb hbk
              have hb2 : 0 ≤ o.a0 ∧ o.a0 + 256 * ((m : Int) + 1) ≤ 10000000 := by have := hbk; simp only [V6.uK] at this; omega
              have gw : IntKind.i64.wrap (o.a0 + 4) = o.a0 + 4 := IntWalk.i64_in _ (by omega)
              have hset := hO.set 0 (.int .i64 (o.a0 + 4))
              have HS := hid (show Blk (wr.setCell ⟨B + 1 + 1, 0, none⟩ (.int .i64 (o.a0 + 4))) (B + 1 + 1) [.int .i64 (o.a0 + 4), .int .i64 o.a1, .int .i64 o.a2, .int .i64 o.a3, .int .i64 o.a4, .int .i64 o.a5] from hset)
              clear hset hO hbk hszb
              go_wp2_with fail
              refine wp_region_still_tail 7 (by kernel_rfl) (by kernel_rfl) ?_
              simp only [List.take_succ_cons, List.take_zero, List.drop_succ_cons, List.drop_zero]
              repeat (first | still_step | still_call hsl)
              refine wpStill_nil ?_
              change wpList _ _ _ _ _ wr.drew
              clear hsl
              go_wp2_with fail
              clear z0 z1 z2 z3 z4 z5 f1
              refine calls_gen (fun W => Blk W (B + 1 + 1) [.int .i64 (o.a0 + 4), .int .i64 o.a1, .int .i64 o.a2, .int .i64 o.a3, .int .i64 o.a4, .int .i64 o.a5] ∧ Keeps (fun b => b < w1.heap.size ∧ b ≠ B + 1 + 1) w1 W) ⟨?_, ?_⟩ (fun W HW => ?_)
              · first | exact HS.out.drew | exact HS.out
              · repeat (first | with_reducible exact HKO.out | with_reducible refine Keeps.drew ?_ | with_reducible refine Keeps.setCell ?_ ?_ _)
                all_goals simp
              obtain ⟨hB3, hK3⟩ := HW
              refine (slab_at0 W).mono ?_
              rintro e w3 ⟨rfl, rfl⟩
              have HB3 := hid hB3
              have HK3 := hid hK3
              clear hB3 hK3 HS
              go_wp2_with fail
              go_roundw
              case rel => exact ⟨i + 1, m, 4 - 2, 1, o.up 0 4, by first | rfl | go_num, by first | rfl | go_num, by first | rfl | go_num, by omega, by omega, HIM.out, hid ⟨HB3.out, HK3.out, HBD.out, HRQ.out⟩⟩
              case measure => have := HLT.out; simp [intOf]; omega
            · have z0 := (hO).cell 0
              have z1 := (hO).cell 1
              have z2 := (hO).cell 2
              have z3 := (hO).cell 3
              have z4 := (hO).cell 4
              have z5 := (hO).cell 5
              simp only [List.getElem?_cons_zero, List.getElem?_cons_succ] at z0 z1 z2 z3 z4 z5
              have f1 := hO.free
              have hsl : Calls Tryd.prog 44 #[.int .i64 ((1 : Nat) : Int)] wr.drew fun e w' => e = .returned (.int .i64 16) ∧ w' = wr.drew := slab_at1 wr.drew
              simp only [szK] at hszb hbk
              have hb2 : 0 ≤ o.a1 ∧ o.a1 + 256 * ((m : Int) + 1) ≤ 10000000 := by have := hbk; simp only [V6.uK] at this; omega
              have gw : IntKind.i64.wrap (o.a1 + 16) = o.a1 + 16 := IntWalk.i64_in _ (by omega)
              have hset := hO.set 1 (.int .i64 (o.a1 + 16))
              have HS := hid (show Blk (wr.setCell ⟨B + 1 + 1, 1, none⟩ (.int .i64 (o.a1 + 16))) (B + 1 + 1) [.int .i64 o.a0, .int .i64 (o.a1 + 16), .int .i64 o.a2, .int .i64 o.a3, .int .i64 o.a4, .int .i64 o.a5] from hset)
              clear hset hO hbk hszb
              go_wp2_with fail
              refine wp_region_still_tail 7 (by kernel_rfl) (by kernel_rfl) ?_
              simp only [List.take_succ_cons, List.take_zero, List.drop_succ_cons, List.drop_zero]
              repeat (first | still_step | still_call hsl)
              refine wpStill_nil ?_
              change wpList _ _ _ _ _ wr.drew
              clear hsl
              go_wp2_with fail
              clear z0 z1 z2 z3 z4 z5 f1
              refine calls_gen (fun W => Blk W (B + 1 + 1) [.int .i64 o.a0, .int .i64 (o.a1 + 16), .int .i64 o.a2, .int .i64 o.a3, .int .i64 o.a4, .int .i64 o.a5] ∧ Keeps (fun b => b < w1.heap.size ∧ b ≠ B + 1 + 1) w1 W) ⟨?_, ?_⟩ (fun W HW => ?_)
              · first | exact HS.out.drew | exact HS.out
              · repeat (first | with_reducible exact HKO.out | with_reducible refine Keeps.drew ?_ | with_reducible refine Keeps.setCell ?_ ?_ _)
                all_goals simp
              obtain ⟨hB3, hK3⟩ := HW
              refine (slab_at1 W).mono ?_
              rintro e w3 ⟨rfl, rfl⟩
              have HB3 := hid hB3
              have HK3 := hid hK3
              clear hB3 hK3 HS
              go_wp2_with fail
              go_roundw
              case rel => exact ⟨i + 1, m, 16 - 2, 2, o.up 1 16, by first | rfl | go_num, by first | rfl | go_num, by first | rfl | go_num, by omega, by omega, HIM.out, hid ⟨HB3.out, HK3.out, HBD.out, HRQ.out⟩⟩
              case measure => have := HLT.out; simp [intOf]; omega
            · have z0 := (hO).cell 0
              have z1 := (hO).cell 1
              have z2 := (hO).cell 2
              have z3 := (hO).cell 3
              have z4 := (hO).cell 4
              have z5 := (hO).cell 5
              simp only [List.getElem?_cons_zero, List.getElem?_cons_succ] at z0 z1 z2 z3 z4 z5
              have f1 := hO.free
              have hsl : Calls Tryd.prog 44 #[.int .i64 ((2 : Nat) : Int)] wr.drew fun e w' => e = .returned (.int .i64 64) ∧ w' = wr.drew := slab_at2 wr.drew
              simp only [szK] at hszb hbk
              have hb2 : 0 ≤ o.a2 ∧ o.a2 + 256 * ((m : Int) + 1) ≤ 10000000 := by have := hbk; simp only [V6.uK] at this; omega
              have gw : IntKind.i64.wrap (o.a2 + 64) = o.a2 + 64 := IntWalk.i64_in _ (by omega)
              have hset := hO.set 2 (.int .i64 (o.a2 + 64))
              have HS := hid (show Blk (wr.setCell ⟨B + 1 + 1, 2, none⟩ (.int .i64 (o.a2 + 64))) (B + 1 + 1) [.int .i64 o.a0, .int .i64 o.a1, .int .i64 (o.a2 + 64), .int .i64 o.a3, .int .i64 o.a4, .int .i64 o.a5] from hset)
              clear hset hO hbk hszb
              go_wp2_with fail
              refine wp_region_still_tail 7 (by kernel_rfl) (by kernel_rfl) ?_
              simp only [List.take_succ_cons, List.take_zero, List.drop_succ_cons, List.drop_zero]
              repeat (first | still_step | still_call hsl)
              refine wpStill_nil ?_
              change wpList _ _ _ _ _ wr.drew
              clear hsl
              go_wp2_with fail
              clear z0 z1 z2 z3 z4 z5 f1
              refine calls_gen (fun W => Blk W (B + 1 + 1) [.int .i64 o.a0, .int .i64 o.a1, .int .i64 (o.a2 + 64), .int .i64 o.a3, .int .i64 o.a4, .int .i64 o.a5] ∧ Keeps (fun b => b < w1.heap.size ∧ b ≠ B + 1 + 1) w1 W) ⟨?_, ?_⟩ (fun W HW => ?_)
              · first | exact HS.out.drew | exact HS.out
              · repeat (first | with_reducible exact HKO.out | with_reducible refine Keeps.drew ?_ | with_reducible refine Keeps.setCell ?_ ?_ _)
                all_goals simp
              obtain ⟨hB3, hK3⟩ := HW
              refine (slab_at2 W).mono ?_
              rintro e w3 ⟨rfl, rfl⟩
              have HB3 := hid hB3
              have HK3 := hid hK3
              clear hB3 hK3 HS
              go_wp2_with fail
              go_roundw
              case rel => exact ⟨i + 1, m, 64 - 2, 3, o.up 2 64, by first | rfl | go_num, by first | rfl | go_num, by first | rfl | go_num, by omega, by omega, HIM.out, hid ⟨HB3.out, HK3.out, HBD.out, HRQ.out⟩⟩
              case measure => have := HLT.out; simp [intOf]; omega
            · have z0 := (hO).cell 0
              have z1 := (hO).cell 1
              have z2 := (hO).cell 2
              have z3 := (hO).cell 3
              have z4 := (hO).cell 4
              have z5 := (hO).cell 5
              simp only [List.getElem?_cons_zero, List.getElem?_cons_succ] at z0 z1 z2 z3 z4 z5
              have f1 := hO.free
              have hsl : Calls Tryd.prog 44 #[.int .i64 ((3 : Nat) : Int)] wr.drew fun e w' => e = .returned (.int .i64 256) ∧ w' = wr.drew := slab_at3 wr.drew
              simp only [szK] at hszb hbk
              have hb2 : 0 ≤ o.a3 ∧ o.a3 + 256 * ((m : Int) + 1) ≤ 10000000 := by have := hbk; simp only [V6.uK] at this; omega
              have gw : IntKind.i64.wrap (o.a3 + 256) = o.a3 + 256 := IntWalk.i64_in _ (by omega)
              have hset := hO.set 3 (.int .i64 (o.a3 + 256))
              have HS := hid (show Blk (wr.setCell ⟨B + 1 + 1, 3, none⟩ (.int .i64 (o.a3 + 256))) (B + 1 + 1) [.int .i64 o.a0, .int .i64 o.a1, .int .i64 o.a2, .int .i64 (o.a3 + 256), .int .i64 o.a4, .int .i64 o.a5] from hset)
              clear hset hO hbk hszb
              go_wp2_with fail
              refine wp_region_still_tail 7 (by kernel_rfl) (by kernel_rfl) ?_
              simp only [List.take_succ_cons, List.take_zero, List.drop_succ_cons, List.drop_zero]
              repeat (first | still_step | still_call hsl)
              refine wpStill_nil ?_
              change wpList _ _ _ _ _ wr.drew
              clear hsl
              go_wp2_with fail
              clear z0 z1 z2 z3 z4 z5 f1
              refine calls_gen (fun W => Blk W (B + 1 + 1) [.int .i64 o.a0, .int .i64 o.a1, .int .i64 o.a2, .int .i64 (o.a3 + 256), .int .i64 o.a4, .int .i64 o.a5] ∧ Keeps (fun b => b < w1.heap.size ∧ b ≠ B + 1 + 1) w1 W) ⟨?_, ?_⟩ (fun W HW => ?_)
              · first | exact HS.out.drew | exact HS.out
              · repeat (first | with_reducible exact HKO.out | with_reducible refine Keeps.drew ?_ | with_reducible refine Keeps.setCell ?_ ?_ _)
                all_goals simp
              obtain ⟨hB3, hK3⟩ := HW
              refine (slab_at3 W).mono ?_
              rintro e w3 ⟨rfl, rfl⟩
              have HB3 := hid hB3
              have HK3 := hid hK3
              clear hB3 hK3 HS
              go_wp2_with fail
              go_roundw
              case rel => exact ⟨i + 1, m, 256 - 2, 3, o.up 3 256, by first | rfl | go_num, by first | rfl | go_num, by first | rfl | go_num, by omega, by omega, HIM.out, hid ⟨HB3.out, HK3.out, HBD.out, HRQ.out⟩⟩
              case measure => have := HLT.out; simp [intOf]; omega
          · rw [show refL (m + 1) lf k' o = refL m (lf - 1) k' o from by rw [refL, if_neg hl0]] at hres
            have HRQ := hid hres
            have gl : ((lf : Int) == 0) = false := by simp [hl0]
            have gw : IntKind.i64.wrap ((lf : Int) - 1) = (lf : Int) - 1 := IntWalk.i64_in _ (by omega)
            have HO := hid hO
            have HBD := hid (show ∀ j, j ≤ 3 → 0 ≤ o.uK j ∧ o.uK j + 256 * m ≤ 10000000 from fun j hj => by have := hbd j hj; omega)
            have HL := hid (show 0 < lf ∧ lf ≤ 256 ∧ k' ≤ 3 from by omega)
            have HLT := hid hlt
            clear hres hbd hKO HI hk' him hlf hO hl0
            go_wp2_with fail
            go_roundw
            case rel =>
              refine ⟨i + 1, m, lf - 1, k', o, by first | rfl | (have hx := HL.out; congr 1; omega), by first | rfl | go_num, by first | rfl | go_num, HL.out.2.2, by have := HL.out; omega, HIM.out, hid ⟨?_, ?_, HBD.out, HRQ.out⟩⟩
              · repeat (first | exact HO.out | with_reducible refine Blk.drew ?_)
              · repeat (first | with_reducible exact HKO.out | with_reducible refine Keeps.drew ?_)
            case measure => have := HLT.out; simp [intOf]; omega
        · have hm0 : m = 0 := by omega
          subst hm0
          have hfin : o = refL n.toNat 0 0 zerosN := HI.out.2.2.2
          obtain ⟨hO, hKO, -, -⟩ := HI.out
          have hD1 := HB1.out.keep hKO ⟨HB1.out.lt, by omega⟩
          have hkf : Keeps (· < B) w wr := Hkw.out.trans (hKO.mono fun b hb => by have := HB1.out.lt; constructor <;> omega)
          have Hkf := hid hkf
          have Hfin := hid hfin
          clear hkf hfin
          have d0 := (hD1).cell 0
          have d1 := (hD1).cell 1
          have d2 := (hD1).cell 2
          have d3 := (hD1).cell 3
          have d4 := (hD1).cell 4
          have d5 := (hD1).cell 5
          simp only [List.getElem?_cons_zero, List.getElem?_cons_succ] at d0 d1 d2 d3 d4 d5
          have z0 := (hO).cell 0
          have z1 := (hO).cell 1
          have z2 := (hO).cell 2
          have z3 := (hO).cell 3
          have z4 := (hO).cell 4
          have z5 := (hO).cell 5
          simp only [List.getElem?_cons_zero, List.getElem?_cons_succ] at z0 z1 z2 z3 z4 z5
          have f1 := hD1.free
          clear HI hKO
          go_wp2_with fail
          refine bp_gen (fun W => Blk W (B + 1) [.int .i64 o.a0, .int .i64 o.a1, .int .i64 o.a2, .int .i64 o.a3, .int .i64 o.a4, .int .i64 o.a5] ∧ Keeps (· < B) w W) ⟨?_, ?_⟩ ?_
          · first | with_reducible exact Blk.set6 hD1 _ _ _ _ _ _ (by simp) | with_reducible exact (Blk.set6 hD1 _ _ _ _ _ _ (by simp)).drew
          · repeat (first | with_reducible exact Hkf.out | with_reducible refine Keeps.drew ?_ | with_reducible refine Keeps.setCell ?_ ?_ _)
            all_goals (simp)
          clear hD1 hO d0 d1 d2 d3 d4 d5 z0 z1 z2 z3 z4 z5 f1
          rintro W2 ⟨g1, g2⟩
          have d0 := (g1).cell 0
          have d1 := (g1).cell 1
          have d2 := (g1).cell 2
          have d3 := (g1).cell 3
          have d4 := (g1).cell 4
          have d5 := (g1).cell 5
          simp only [List.getElem?_cons_zero, List.getElem?_cons_succ] at d0 d1 d2 d3 d4 d5
          refine bodyPost_ret (v := .agg #[.int .i64 o.a0, .int .i64 o.a1, .int .i64 o.a2, .int .i64 o.a3, .int .i64 o.a4, .int .i64 o.a5]) ?_ rfl ?_
          · simp [results, Tryd.results15, go_sem, d0, d1, d2, d3, d4, d5]
          · refine hR'.out _ _ ⟨?_, g2⟩
            rw [← Hfin.out]; rfl
    · rw [if_neg h0] at hR'
      have g0 : (t != 0) = true := by simp [h0]
      have g6 : decide (n > 1000000) = false := decide_eq_false (by omega)
      have hc1 := HNC.out rfl h0
      rcases HRG.out with hx | ⟨k, hk, rfl⟩
      · omega
      have hmk := HMD.out k rfl
      rw [show ((k : Int)).toNat = k from by omega] at hR'
      have HMK := hid hmk
      have HKK := hid hk
      have hBf := hB0
      unfold PlanM.flat at hBf
      have p0 := (hBf).cell 0
      have p1 := (hBf).cell 1
      have p2 := (hBf).cell 2
      have p3 := (hBf).cell 3
      have p4 := (hBf).cell 4
      have p5 := (hBf).cell 5
      have p6 := (hBf).cell 6
      have p7 := (hBf).cell 7
      have p8 := (hBf).cell 8
      have p9 := (hBf).cell 9
      have p10 := (hBf).cell 10
      have p11 := (hBf).cell 11
      have p12 := (hBf).cell 12
      have p13 := (hBf).cell 13
      have p14 := (hBf).cell 14
      simp only [List.getElem?_cons_zero, List.getElem?_cons_succ] at p0 p1 p2 p3 p4 p5 p6 p7 p8 p9 p10 p11 p12 p13 p14
      clear hBf h0 hc1 hmk hk
      go_wp2_with fail
      refine (HCL.out w1).mono ?_
      rintro e w2 ⟨rfl, hk2⟩
      have hB1' := hB1.keep hk2 hB1.lt
      have hB2' := hB2.keep hk2 hB2.lt
      have hkw' := hkw.trans (hk2.mono fun b hb => by have := hB1.lt; omega)
      clear hB0 hB1 hB2 hkw hk2 p0 p1 p2 p3 p4 p5 p6 p7 p8 p9 p10 p11 p12 p13 p14
      go_wp2_with fail
      refine (slab_ref k HKK.out w2).mono ?_
      rintro e w5 ⟨rfl, hw5⟩
      subst hw5
      have hsz : ((4 ^ (k + 1) : Nat) : Int) = szK k := by
        have := HKK.out
        have hk4 : k = 0 ∨ k = 1 ∨ k = 2 ∨ k = 3 := by omega
        rcases hk4 with rfl | rfl | rfl | rfl <;> rfl
      rw [hsz]
      have hszb := szK_bd k
      clear hsz
      generalize szK k = S at *
      obtain ⟨R0, hR0⟩ : ∃ R0 : Nat, R0 = (S - 1 - c2).toNat := ⟨_, rfl⟩
      obtain ⟨K0, hK0⟩ : ∃ K0 : Nat, K0 = min (k + 1) 3 := ⟨_, rfl⟩
      rw [← hR0, ← hK0] at hR'
      have hmk := HMK.out
      have hkk := HKK.out
      have gs1 : IntKind.i64.wrap (S - 1) = S - 1 := IntWalk.i64_in _ (by omega)
      have gs2 : IntKind.i64.wrap (S - 1 - c2) = (R0 : Int) := by rw [hR0, Int.toNat_of_nonneg (by omega)]; exact IntWalk.i64_in _ (by omega)
      have gk1 : IntKind.i64.wrap ((k : Int) + 1) = (k : Int) + 1 := IntWalk.i64_in _ (by omega)
      have HRK := hid (show 0 ≤ R0 ∧ R0 ≤ 256 ∧ K0 ≤ 3 ∧ K0 = min (k + 1) 3 from by omega)
      clear hR0 hK0 hmk hkk hszb HMK HKK
      go_wp2_with fail
      all_goals clear gs1 gs2 gk1
      all_goals
        have hB1 := hB1'
        have hB2 := hB2'
        have hkw := hkw'
        clear hB1' hB2' hkw'
      case inr =>
        have HB1 := hid hB1
        have Hkw := hid hkw
        have hB2' := hB2
        clear hB1 hkw hB2
        go_loopw [8, 9, 12] (fun vl vk vi wr => ∃ (i m lf k' : Nat) (o : V6), vl = .int .i64 (lf : Int) ∧ vk = .int .i64 (k' : Int) ∧ vi = .int .i64 (i : Int) ∧ k' ≤ 3 ∧ lf ≤ 256 ∧ i + m = n.toNat ∧
          Hid (Blk wr (B + 1 + 1) [.int .i64 o.a0, .int .i64 o.a1, .int .i64 o.a2, .int .i64 o.a3, .int .i64 o.a4, .int .i64 o.a5] ∧ Keeps (fun b => b < w5.heap.size ∧ b ≠ B + 1 + 1) w5 wr ∧ (∀ j, j ≤ 3 → 0 ≤ o.uK j ∧ o.uK j + 256 * m ≤ 10000000) ∧ refL m lf k' o = refL n.toNat R0 K0 zerosN)) (fun _ _ vi _ => n.toNat - (intOf vi).toNat)
        case atStart => exact ⟨0, n.toNat, R0, K0, zerosN, by first | rfl | go_num | (have hx := HRK.out; congr 1; omega), by first | rfl | go_num | (have hx := HRK.out; congr 1; omega), rfl, HRK.out.2.2.1, HRK.out.2.1, by omega, hid ⟨hB2', Keeps.refl _ _, fun i hi => by rw [zerosN_uK]; omega, rfl⟩⟩
        case round =>
          obtain ⟨i, m, lf, k', o, rfl, rfl, rfl, hk', hlf, him, HI⟩ := hrel
          by_cases hlt : (i : Int) < n
          · obtain ⟨m, rfl⟩ : ∃ g, m = g + 1 := ⟨m - 1, by omega⟩
            obtain ⟨hO, hKO, hbd, hres⟩ := HI.out
            have HIM := hid (show i + 1 + m = n.toNat from by omega)
            have HKO := hid hKO
            have hi3 : i < 3000 := by omega
            by_cases hl0 : lf = 0
            · rw [show refL (m + 1) lf k' o = refL m (sz k' - 2) (min (k' + 1) 3) (o.up k' (szK k')) from by rw [refL, if_pos hl0]] at hres
              have HRQ := hid hres
              have gl : ((lf : Int) == 0) = true := by simp [hl0]
              have hbk := hbd k' hk'
              have hszb := szK_bd k'
              have HBD := hid (show ∀ j, j ≤ 3 → 0 ≤ (o.up k' (szK k')).uK j ∧ (o.up k' (szK k')).uK j + 256 * m ≤ 10000000 from by
                intro j hj
                have := hbd j hj
                rw [uK_up hk' hj]
                split <;> omega)
              have hcases : k' = 0 ∨ k' = 1 ∨ k' = 2 ∨ k' = 3 := by omega
              have HLT := hid hlt
              clear hres hbd hKO HI hk' him hl0 hlf
              rcases hcases with rfl | rfl | rfl | rfl
              · have z0 := (hO).cell 0
                have z1 := (hO).cell 1
                have z2 := (hO).cell 2
                have z3 := (hO).cell 3
                have z4 := (hO).cell 4
                have z5 := (hO).cell 5
                simp only [List.getElem?_cons_zero, List.getElem?_cons_succ] at z0 z1 z2 z3 z4 z5
                have f1 := hO.free
                have hsl : Calls Tryd.prog 44 #[.int .i64 ((0 : Nat) : Int)] wr.drew fun e w' => e = .returned (.int .i64 4) ∧ w' = wr.drew := slab_at0 wr.drew
                simp only [szK] at hszb hbk
                have hb2 : 0 ≤ o.a0 ∧ o.a0 + 256 * ((m : Int) + 1) ≤ 10000000 := by have := hbk; simp only [V6.uK] at this; omega
                have gw : IntKind.i64.wrap (o.a0 + 4) = o.a0 + 4 := IntWalk.i64_in _ (by omega)
                have hset := hO.set 0 (.int .i64 (o.a0 + 4))
                have HS := hid (show Blk (wr.setCell ⟨B + 1 + 1, 0, none⟩ (.int .i64 (o.a0 + 4))) (B + 1 + 1) [.int .i64 (o.a0 + 4), .int .i64 o.a1, .int .i64 o.a2, .int .i64 o.a3, .int .i64 o.a4, .int .i64 o.a5] from hset)
                clear hset hO hbk hszb
                go_wp2_with fail
                refine wp_region_still_tail 7 (by kernel_rfl) (by kernel_rfl) ?_
                simp only [List.take_succ_cons, List.take_zero, List.drop_succ_cons, List.drop_zero]
                repeat (first | still_step | still_call hsl)
                refine wpStill_nil ?_
                change wpList _ _ _ _ _ wr.drew
                clear hsl
                go_wp2_with fail
                clear z0 z1 z2 z3 z4 z5 f1
                refine calls_gen (fun W => Blk W (B + 1 + 1) [.int .i64 (o.a0 + 4), .int .i64 o.a1, .int .i64 o.a2, .int .i64 o.a3, .int .i64 o.a4, .int .i64 o.a5] ∧ Keeps (fun b => b < w5.heap.size ∧ b ≠ B + 1 + 1) w5 W) ⟨?_, ?_⟩ (fun W HW => ?_)
                · first | exact HS.out.drew | exact HS.out
                · repeat (first | with_reducible exact HKO.out | with_reducible refine Keeps.drew ?_ | with_reducible refine Keeps.setCell ?_ ?_ _)
                  all_goals simp
                obtain ⟨hB3, hK3⟩ := HW
                refine (slab_at0 W).mono ?_
                rintro e w3 ⟨rfl, rfl⟩
                have HB3 := hid hB3
                have HK3 := hid hK3
                clear hB3 hK3 HS
                go_wp2_with fail
                go_roundw
                case rel => exact ⟨i + 1, m, 4 - 2, 1, o.up 0 4, by first | rfl | go_num, by first | rfl | go_num, by first | rfl | go_num, by omega, by omega, HIM.out, hid ⟨HB3.out, HK3.out, HBD.out, HRQ.out⟩⟩
                case measure => have := HLT.out; simp [intOf]; omega
              · have z0 := (hO).cell 0
                have z1 := (hO).cell 1
                have z2 := (hO).cell 2
                have z3 := (hO).cell 3
                have z4 := (hO).cell 4
                have z5 := (hO).cell 5
                simp only [List.getElem?_cons_zero, List.getElem?_cons_succ] at z0 z1 z2 z3 z4 z5
                have f1 := hO.free
                have hsl : Calls Tryd.prog 44 #[.int .i64 ((1 : Nat) : Int)] wr.drew fun e w' => e = .returned (.int .i64 16) ∧ w' = wr.drew := slab_at1 wr.drew
                simp only [szK] at hszb hbk
                have hb2 : 0 ≤ o.a1 ∧ o.a1 + 256 * ((m : Int) + 1) ≤ 10000000 := by have := hbk; simp only [V6.uK] at this; omega
                have gw : IntKind.i64.wrap (o.a1 + 16) = o.a1 + 16 := IntWalk.i64_in _ (by omega)
                have hset := hO.set 1 (.int .i64 (o.a1 + 16))
                have HS := hid (show Blk (wr.setCell ⟨B + 1 + 1, 1, none⟩ (.int .i64 (o.a1 + 16))) (B + 1 + 1) [.int .i64 o.a0, .int .i64 (o.a1 + 16), .int .i64 o.a2, .int .i64 o.a3, .int .i64 o.a4, .int .i64 o.a5] from hset)
                clear hset hO hbk hszb
                go_wp2_with fail
                refine wp_region_still_tail 7 (by kernel_rfl) (by kernel_rfl) ?_
                simp only [List.take_succ_cons, List.take_zero, List.drop_succ_cons, List.drop_zero]
                repeat (first | still_step | still_call hsl)
                refine wpStill_nil ?_
                change wpList _ _ _ _ _ wr.drew
                clear hsl
                go_wp2_with fail
                clear z0 z1 z2 z3 z4 z5 f1
                refine calls_gen (fun W => Blk W (B + 1 + 1) [.int .i64 o.a0, .int .i64 (o.a1 + 16), .int .i64 o.a2, .int .i64 o.a3, .int .i64 o.a4, .int .i64 o.a5] ∧ Keeps (fun b => b < w5.heap.size ∧ b ≠ B + 1 + 1) w5 W) ⟨?_, ?_⟩ (fun W HW => ?_)
                · first | exact HS.out.drew | exact HS.out
                · repeat (first | with_reducible exact HKO.out | with_reducible refine Keeps.drew ?_ | with_reducible refine Keeps.setCell ?_ ?_ _)
                  all_goals simp
                obtain ⟨hB3, hK3⟩ := HW
                refine (slab_at1 W).mono ?_
                rintro e w3 ⟨rfl, rfl⟩
                have HB3 := hid hB3
                have HK3 := hid hK3
                clear hB3 hK3 HS
                go_wp2_with fail
                go_roundw
                case rel => exact ⟨i + 1, m, 16 - 2, 2, o.up 1 16, by first | rfl | go_num, by first | rfl | go_num, by first | rfl | go_num, by omega, by omega, HIM.out, hid ⟨HB3.out, HK3.out, HBD.out, HRQ.out⟩⟩
                case measure => have := HLT.out; simp [intOf]; omega
              · have z0 := (hO).cell 0
                have z1 := (hO).cell 1
                have z2 := (hO).cell 2
                have z3 := (hO).cell 3
                have z4 := (hO).cell 4
                have z5 := (hO).cell 5
                simp only [List.getElem?_cons_zero, List.getElem?_cons_succ] at z0 z1 z2 z3 z4 z5
                have f1 := hO.free
                have hsl : Calls Tryd.prog 44 #[.int .i64 ((2 : Nat) : Int)] wr.drew fun e w' => e = .returned (.int .i64 64) ∧ w' = wr.drew := slab_at2 wr.drew
                simp only [szK] at hszb hbk
                have hb2 : 0 ≤ o.a2 ∧ o.a2 + 256 * ((m : Int) + 1) ≤ 10000000 := by have := hbk; simp only [V6.uK] at this; omega
                have gw : IntKind.i64.wrap (o.a2 + 64) = o.a2 + 64 := IntWalk.i64_in _ (by omega)
                have hset := hO.set 2 (.int .i64 (o.a2 + 64))
                have HS := hid (show Blk (wr.setCell ⟨B + 1 + 1, 2, none⟩ (.int .i64 (o.a2 + 64))) (B + 1 + 1) [.int .i64 o.a0, .int .i64 o.a1, .int .i64 (o.a2 + 64), .int .i64 o.a3, .int .i64 o.a4, .int .i64 o.a5] from hset)
                clear hset hO hbk hszb
                go_wp2_with fail
                refine wp_region_still_tail 7 (by kernel_rfl) (by kernel_rfl) ?_
                simp only [List.take_succ_cons, List.take_zero, List.drop_succ_cons, List.drop_zero]
                repeat (first | still_step | still_call hsl)
                refine wpStill_nil ?_
                change wpList _ _ _ _ _ wr.drew
                clear hsl
                go_wp2_with fail
                clear z0 z1 z2 z3 z4 z5 f1
                refine calls_gen (fun W => Blk W (B + 1 + 1) [.int .i64 o.a0, .int .i64 o.a1, .int .i64 (o.a2 + 64), .int .i64 o.a3, .int .i64 o.a4, .int .i64 o.a5] ∧ Keeps (fun b => b < w5.heap.size ∧ b ≠ B + 1 + 1) w5 W) ⟨?_, ?_⟩ (fun W HW => ?_)
                · first | exact HS.out.drew | exact HS.out
                · repeat (first | with_reducible exact HKO.out | with_reducible refine Keeps.drew ?_ | with_reducible refine Keeps.setCell ?_ ?_ _)
                  all_goals simp
                obtain ⟨hB3, hK3⟩ := HW
                refine (slab_at2 W).mono ?_
                rintro e w3 ⟨rfl, rfl⟩
                have HB3 := hid hB3
                have HK3 := hid hK3
                clear hB3 hK3 HS
                go_wp2_with fail
                go_roundw
                case rel => exact ⟨i + 1, m, 64 - 2, 3, o.up 2 64, by first | rfl | go_num, by first | rfl | go_num, by first | rfl | go_num, by omega, by omega, HIM.out, hid ⟨HB3.out, HK3.out, HBD.out, HRQ.out⟩⟩
                case measure => have := HLT.out; simp [intOf]; omega
              · have z0 := (hO).cell 0
                have z1 := (hO).cell 1
                have z2 := (hO).cell 2
                have z3 := (hO).cell 3
                have z4 := (hO).cell 4
                have z5 := (hO).cell 5
                simp only [List.getElem?_cons_zero, List.getElem?_cons_succ] at z0 z1 z2 z3 z4 z5
                have f1 := hO.free
                have hsl : Calls Tryd.prog 44 #[.int .i64 ((3 : Nat) : Int)] wr.drew fun e w' => e = .returned (.int .i64 256) ∧ w' = wr.drew := slab_at3 wr.drew
                simp only [szK] at hszb hbk
                have hb2 : 0 ≤ o.a3 ∧ o.a3 + 256 * ((m : Int) + 1) ≤ 10000000 := by have := hbk; simp only [V6.uK] at this; omega
                have gw : IntKind.i64.wrap (o.a3 + 256) = o.a3 + 256 := IntWalk.i64_in _ (by omega)
                have hset := hO.set 3 (.int .i64 (o.a3 + 256))
                have HS := hid (show Blk (wr.setCell ⟨B + 1 + 1, 3, none⟩ (.int .i64 (o.a3 + 256))) (B + 1 + 1) [.int .i64 o.a0, .int .i64 o.a1, .int .i64 o.a2, .int .i64 (o.a3 + 256), .int .i64 o.a4, .int .i64 o.a5] from hset)
                clear hset hO hbk hszb
                go_wp2_with fail
                refine wp_region_still_tail 7 (by kernel_rfl) (by kernel_rfl) ?_
                simp only [List.take_succ_cons, List.take_zero, List.drop_succ_cons, List.drop_zero]
                repeat (first | still_step | still_call hsl)
                refine wpStill_nil ?_
                change wpList _ _ _ _ _ wr.drew
                clear hsl
                go_wp2_with fail
                clear z0 z1 z2 z3 z4 z5 f1
                refine calls_gen (fun W => Blk W (B + 1 + 1) [.int .i64 o.a0, .int .i64 o.a1, .int .i64 o.a2, .int .i64 (o.a3 + 256), .int .i64 o.a4, .int .i64 o.a5] ∧ Keeps (fun b => b < w5.heap.size ∧ b ≠ B + 1 + 1) w5 W) ⟨?_, ?_⟩ (fun W HW => ?_)
                · first | exact HS.out.drew | exact HS.out
                · repeat (first | with_reducible exact HKO.out | with_reducible refine Keeps.drew ?_ | with_reducible refine Keeps.setCell ?_ ?_ _)
                  all_goals simp
                obtain ⟨hB3, hK3⟩ := HW
                refine (slab_at3 W).mono ?_
                rintro e w3 ⟨rfl, rfl⟩
                have HB3 := hid hB3
                have HK3 := hid hK3
                clear hB3 hK3 HS
                go_wp2_with fail
                go_roundw
                case rel => exact ⟨i + 1, m, 256 - 2, 3, o.up 3 256, by first | rfl | go_num, by first | rfl | go_num, by first | rfl | go_num, by omega, by omega, HIM.out, hid ⟨HB3.out, HK3.out, HBD.out, HRQ.out⟩⟩
                case measure => have := HLT.out; simp [intOf]; omega
            · rw [show refL (m + 1) lf k' o = refL m (lf - 1) k' o from by rw [refL, if_neg hl0]] at hres
              have HRQ := hid hres
              have gl : ((lf : Int) == 0) = false := by simp [hl0]
              have gw : IntKind.i64.wrap ((lf : Int) - 1) = (lf : Int) - 1 := IntWalk.i64_in _ (by omega)
              have HO := hid hO
              have HBD := hid (show ∀ j, j ≤ 3 → 0 ≤ o.uK j ∧ o.uK j + 256 * m ≤ 10000000 from fun j hj => by have := hbd j hj; omega)
              have HL := hid (show 0 < lf ∧ lf ≤ 256 ∧ k' ≤ 3 from by omega)
              have HLT := hid hlt
              clear hres hbd hKO HI hk' him hlf hO hl0
              go_wp2_with fail
              go_roundw
              case rel =>
                refine ⟨i + 1, m, lf - 1, k', o, by first | rfl | (have hx := HL.out; congr 1; omega), by first | rfl | go_num, by first | rfl | go_num, HL.out.2.2, by have := HL.out; omega, HIM.out, hid ⟨?_, ?_, HBD.out, HRQ.out⟩⟩
                · repeat (first | exact HO.out | with_reducible refine Blk.drew ?_)
                · repeat (first | with_reducible exact HKO.out | with_reducible refine Keeps.drew ?_)
              case measure => have := HLT.out; simp [intOf]; omega
          · have hm0 : m = 0 := by omega
            subst hm0
            have hfin : o = refL n.toNat R0 K0 zerosN := HI.out.2.2.2
            obtain ⟨hO, hKO, -, -⟩ := HI.out
            have hD1 := HB1.out.keep hKO ⟨HB1.out.lt, by omega⟩
            have hkf : Keeps (· < B) w wr := Hkw.out.trans (hKO.mono fun b hb => by have := HB1.out.lt; constructor <;> omega)
            have Hkf := hid hkf
            have Hfin := hid hfin
            clear hkf hfin
            have d0 := (hD1).cell 0
            have d1 := (hD1).cell 1
            have d2 := (hD1).cell 2
            have d3 := (hD1).cell 3
            have d4 := (hD1).cell 4
            have d5 := (hD1).cell 5
            simp only [List.getElem?_cons_zero, List.getElem?_cons_succ] at d0 d1 d2 d3 d4 d5
            have z0 := (hO).cell 0
            have z1 := (hO).cell 1
            have z2 := (hO).cell 2
            have z3 := (hO).cell 3
            have z4 := (hO).cell 4
            have z5 := (hO).cell 5
            simp only [List.getElem?_cons_zero, List.getElem?_cons_succ] at z0 z1 z2 z3 z4 z5
            have f1 := hD1.free
            clear HI hKO
            go_wp2_with fail
            refine bp_gen (fun W => Blk W (B + 1) [.int .i64 o.a0, .int .i64 o.a1, .int .i64 o.a2, .int .i64 o.a3, .int .i64 o.a4, .int .i64 o.a5] ∧ Keeps (· < B) w W) ⟨?_, ?_⟩ ?_
            · first | with_reducible exact Blk.set6 hD1 _ _ _ _ _ _ (by simp) | with_reducible exact (Blk.set6 hD1 _ _ _ _ _ _ (by simp)).drew
            · repeat (first | with_reducible exact Hkf.out | with_reducible refine Keeps.drew ?_ | with_reducible refine Keeps.setCell ?_ ?_ _)
              all_goals (simp)
            clear hD1 hO d0 d1 d2 d3 d4 d5 z0 z1 z2 z3 z4 z5 f1
            rintro W2 ⟨g1, g2⟩
            have d0 := (g1).cell 0
            have d1 := (g1).cell 1
            have d2 := (g1).cell 2
            have d3 := (g1).cell 3
            have d4 := (g1).cell 4
            have d5 := (g1).cell 5
            simp only [List.getElem?_cons_zero, List.getElem?_cons_succ] at d0 d1 d2 d3 d4 d5
            refine bodyPost_ret (v := .agg #[.int .i64 o.a0, .int .i64 o.a1, .int .i64 o.a2, .int .i64 o.a3, .int .i64 o.a4, .int .i64 o.a5]) ?_ rfl ?_
            · simp [results, Tryd.results15, go_sem, d0, d1, d2, d3, d4, d5]
            · refine hR'.out _ _ ⟨?_, g2⟩
              rw [← Hfin.out]; rfl
      case inl =>
        have HB1 := hid hB1
        have Hkw := hid hkw
        have hB2' := hB2
        clear hB1 hkw hB2
        go_loopw [8, 9, 12] (fun vl vk vi wr => ∃ (i m lf k' : Nat) (o : V6), vl = .int .i64 (lf : Int) ∧ vk = .int .i64 (k' : Int) ∧ vi = .int .i64 (i : Int) ∧ k' ≤ 3 ∧ lf ≤ 256 ∧ i + m = n.toNat ∧
          Hid (Blk wr (B + 1 + 1) [.int .i64 o.a0, .int .i64 o.a1, .int .i64 o.a2, .int .i64 o.a3, .int .i64 o.a4, .int .i64 o.a5] ∧ Keeps (fun b => b < w5.heap.size ∧ b ≠ B + 1 + 1) w5 wr ∧ (∀ j, j ≤ 3 → 0 ≤ o.uK j ∧ o.uK j + 256 * m ≤ 10000000) ∧ refL m lf k' o = refL n.toNat R0 K0 zerosN)) (fun _ _ vi _ => n.toNat - (intOf vi).toNat)
        case atStart => exact ⟨0, n.toNat, R0, K0, zerosN, by first | rfl | go_num | (have hx := HRK.out; congr 1; omega), by first | rfl | go_num | (have hx := HRK.out; congr 1; omega), rfl, HRK.out.2.2.1, HRK.out.2.1, by omega, hid ⟨hB2', Keeps.refl _ _, fun i hi => by rw [zerosN_uK]; omega, rfl⟩⟩
        case round =>
          obtain ⟨i, m, lf, k', o, rfl, rfl, rfl, hk', hlf, him, HI⟩ := hrel
          by_cases hlt : (i : Int) < n
          · obtain ⟨m, rfl⟩ : ∃ g, m = g + 1 := ⟨m - 1, by omega⟩
            obtain ⟨hO, hKO, hbd, hres⟩ := HI.out
            have HIM := hid (show i + 1 + m = n.toNat from by omega)
            have HKO := hid hKO
            have hi3 : i < 3000 := by omega
            by_cases hl0 : lf = 0
            · rw [show refL (m + 1) lf k' o = refL m (sz k' - 2) (min (k' + 1) 3) (o.up k' (szK k')) from by rw [refL, if_pos hl0]] at hres
              have HRQ := hid hres
              have gl : ((lf : Int) == 0) = true := by simp [hl0]
              have hbk := hbd k' hk'
              have hszb := szK_bd k'
              have HBD := hid (show ∀ j, j ≤ 3 → 0 ≤ (o.up k' (szK k')).uK j ∧ (o.up k' (szK k')).uK j + 256 * m ≤ 10000000 from by
                intro j hj
                have := hbd j hj
                rw [uK_up hk' hj]
                split <;> omega)
              have hcases : k' = 0 ∨ k' = 1 ∨ k' = 2 ∨ k' = 3 := by omega
              have HLT := hid hlt
              clear hres hbd hKO HI hk' him hl0 hlf
              rcases hcases with rfl | rfl | rfl | rfl
              · have z0 := (hO).cell 0
                have z1 := (hO).cell 1
                have z2 := (hO).cell 2
                have z3 := (hO).cell 3
                have z4 := (hO).cell 4
                have z5 := (hO).cell 5
                simp only [List.getElem?_cons_zero, List.getElem?_cons_succ] at z0 z1 z2 z3 z4 z5
                have f1 := hO.free
                have hsl : Calls Tryd.prog 44 #[.int .i64 ((0 : Nat) : Int)] wr.drew fun e w' => e = .returned (.int .i64 4) ∧ w' = wr.drew := slab_at0 wr.drew
                simp only [szK] at hszb hbk
                have hb2 : 0 ≤ o.a0 ∧ o.a0 + 256 * ((m : Int) + 1) ≤ 10000000 := by have := hbk; simp only [V6.uK] at this; omega
                have gw : IntKind.i64.wrap (o.a0 + 4) = o.a0 + 4 := IntWalk.i64_in _ (by omega)
                have hset := hO.set 0 (.int .i64 (o.a0 + 4))
                have HS := hid (show Blk (wr.setCell ⟨B + 1 + 1, 0, none⟩ (.int .i64 (o.a0 + 4))) (B + 1 + 1) [.int .i64 (o.a0 + 4), .int .i64 o.a1, .int .i64 o.a2, .int .i64 o.a3, .int .i64 o.a4, .int .i64 o.a5] from hset)
                clear hset hO hbk hszb
                go_wp2_with fail
                refine wp_region_still_tail 7 (by kernel_rfl) (by kernel_rfl) ?_
                simp only [List.take_succ_cons, List.take_zero, List.drop_succ_cons, List.drop_zero]
                repeat (first | still_step | still_call hsl)
                refine wpStill_nil ?_
                change wpList _ _ _ _ _ wr.drew
                clear hsl
                go_wp2_with fail
                clear z0 z1 z2 z3 z4 z5 f1
                refine calls_gen (fun W => Blk W (B + 1 + 1) [.int .i64 (o.a0 + 4), .int .i64 o.a1, .int .i64 o.a2, .int .i64 o.a3, .int .i64 o.a4, .int .i64 o.a5] ∧ Keeps (fun b => b < w5.heap.size ∧ b ≠ B + 1 + 1) w5 W) ⟨?_, ?_⟩ (fun W HW => ?_)
                · first | exact HS.out.drew | exact HS.out
                · repeat (first | with_reducible exact HKO.out | with_reducible refine Keeps.drew ?_ | with_reducible refine Keeps.setCell ?_ ?_ _)
                  all_goals simp
                obtain ⟨hB3, hK3⟩ := HW
                refine (slab_at0 W).mono ?_
                rintro e w3 ⟨rfl, rfl⟩
                have HB3 := hid hB3
                have HK3 := hid hK3
                clear hB3 hK3 HS
                go_wp2_with fail
                go_roundw
                case rel => exact ⟨i + 1, m, 4 - 2, 1, o.up 0 4, by first | rfl | go_num, by first | rfl | go_num, by first | rfl | go_num, by omega, by omega, HIM.out, hid ⟨HB3.out, HK3.out, HBD.out, HRQ.out⟩⟩
                case measure => have := HLT.out; simp [intOf]; omega
              · have z0 := (hO).cell 0
                have z1 := (hO).cell 1
                have z2 := (hO).cell 2
                have z3 := (hO).cell 3
                have z4 := (hO).cell 4
                have z5 := (hO).cell 5
                simp only [List.getElem?_cons_zero, List.getElem?_cons_succ] at z0 z1 z2 z3 z4 z5
                have f1 := hO.free
                have hsl : Calls Tryd.prog 44 #[.int .i64 ((1 : Nat) : Int)] wr.drew fun e w' => e = .returned (.int .i64 16) ∧ w' = wr.drew := slab_at1 wr.drew
                simp only [szK] at hszb hbk
                have hb2 : 0 ≤ o.a1 ∧ o.a1 + 256 * ((m : Int) + 1) ≤ 10000000 := by have := hbk; simp only [V6.uK] at this; omega
                have gw : IntKind.i64.wrap (o.a1 + 16) = o.a1 + 16 := IntWalk.i64_in _ (by omega)
                have hset := hO.set 1 (.int .i64 (o.a1 + 16))
                have HS := hid (show Blk (wr.setCell ⟨B + 1 + 1, 1, none⟩ (.int .i64 (o.a1 + 16))) (B + 1 + 1) [.int .i64 o.a0, .int .i64 (o.a1 + 16), .int .i64 o.a2, .int .i64 o.a3, .int .i64 o.a4, .int .i64 o.a5] from hset)
                clear hset hO hbk hszb
                go_wp2_with fail
                refine wp_region_still_tail 7 (by kernel_rfl) (by kernel_rfl) ?_
                simp only [List.take_succ_cons, List.take_zero, List.drop_succ_cons, List.drop_zero]
                repeat (first | still_step | still_call hsl)
                refine wpStill_nil ?_
                change wpList _ _ _ _ _ wr.drew
                clear hsl
                go_wp2_with fail
                clear z0 z1 z2 z3 z4 z5 f1
                refine calls_gen (fun W => Blk W (B + 1 + 1) [.int .i64 o.a0, .int .i64 (o.a1 + 16), .int .i64 o.a2, .int .i64 o.a3, .int .i64 o.a4, .int .i64 o.a5] ∧ Keeps (fun b => b < w5.heap.size ∧ b ≠ B + 1 + 1) w5 W) ⟨?_, ?_⟩ (fun W HW => ?_)
                · first | exact HS.out.drew | exact HS.out
                · repeat (first | with_reducible exact HKO.out | with_reducible refine Keeps.drew ?_ | with_reducible refine Keeps.setCell ?_ ?_ _)
                  all_goals simp
                obtain ⟨hB3, hK3⟩ := HW
                refine (slab_at1 W).mono ?_
                rintro e w3 ⟨rfl, rfl⟩
                have HB3 := hid hB3
                have HK3 := hid hK3
                clear hB3 hK3 HS
                go_wp2_with fail
                go_roundw
                case rel => exact ⟨i + 1, m, 16 - 2, 2, o.up 1 16, by first | rfl | go_num, by first | rfl | go_num, by first | rfl | go_num, by omega, by omega, HIM.out, hid ⟨HB3.out, HK3.out, HBD.out, HRQ.out⟩⟩
                case measure => have := HLT.out; simp [intOf]; omega
              · have z0 := (hO).cell 0
                have z1 := (hO).cell 1
                have z2 := (hO).cell 2
                have z3 := (hO).cell 3
                have z4 := (hO).cell 4
                have z5 := (hO).cell 5
                simp only [List.getElem?_cons_zero, List.getElem?_cons_succ] at z0 z1 z2 z3 z4 z5
                have f1 := hO.free
                have hsl : Calls Tryd.prog 44 #[.int .i64 ((2 : Nat) : Int)] wr.drew fun e w' => e = .returned (.int .i64 64) ∧ w' = wr.drew := slab_at2 wr.drew
                simp only [szK] at hszb hbk
                have hb2 : 0 ≤ o.a2 ∧ o.a2 + 256 * ((m : Int) + 1) ≤ 10000000 := by have := hbk; simp only [V6.uK] at this; omega
                have gw : IntKind.i64.wrap (o.a2 + 64) = o.a2 + 64 := IntWalk.i64_in _ (by omega)
                have hset := hO.set 2 (.int .i64 (o.a2 + 64))
                have HS := hid (show Blk (wr.setCell ⟨B + 1 + 1, 2, none⟩ (.int .i64 (o.a2 + 64))) (B + 1 + 1) [.int .i64 o.a0, .int .i64 o.a1, .int .i64 (o.a2 + 64), .int .i64 o.a3, .int .i64 o.a4, .int .i64 o.a5] from hset)
                clear hset hO hbk hszb
                go_wp2_with fail
                refine wp_region_still_tail 7 (by kernel_rfl) (by kernel_rfl) ?_
                simp only [List.take_succ_cons, List.take_zero, List.drop_succ_cons, List.drop_zero]
                repeat (first | still_step | still_call hsl)
                refine wpStill_nil ?_
                change wpList _ _ _ _ _ wr.drew
                clear hsl
                go_wp2_with fail
                clear z0 z1 z2 z3 z4 z5 f1
                refine calls_gen (fun W => Blk W (B + 1 + 1) [.int .i64 o.a0, .int .i64 o.a1, .int .i64 (o.a2 + 64), .int .i64 o.a3, .int .i64 o.a4, .int .i64 o.a5] ∧ Keeps (fun b => b < w5.heap.size ∧ b ≠ B + 1 + 1) w5 W) ⟨?_, ?_⟩ (fun W HW => ?_)
                · first | exact HS.out.drew | exact HS.out
                · repeat (first | with_reducible exact HKO.out | with_reducible refine Keeps.drew ?_ | with_reducible refine Keeps.setCell ?_ ?_ _)
                  all_goals simp
                obtain ⟨hB3, hK3⟩ := HW
                refine (slab_at2 W).mono ?_
                rintro e w3 ⟨rfl, rfl⟩
                have HB3 := hid hB3
                have HK3 := hid hK3
                clear hB3 hK3 HS
                go_wp2_with fail
                go_roundw
                case rel => exact ⟨i + 1, m, 64 - 2, 3, o.up 2 64, by first | rfl | go_num, by first | rfl | go_num, by first | rfl | go_num, by omega, by omega, HIM.out, hid ⟨HB3.out, HK3.out, HBD.out, HRQ.out⟩⟩
                case measure => have := HLT.out; simp [intOf]; omega
              · have z0 := (hO).cell 0
                have z1 := (hO).cell 1
                have z2 := (hO).cell 2
                have z3 := (hO).cell 3
                have z4 := (hO).cell 4
                have z5 := (hO).cell 5
                simp only [List.getElem?_cons_zero, List.getElem?_cons_succ] at z0 z1 z2 z3 z4 z5
                have f1 := hO.free
                have hsl : Calls Tryd.prog 44 #[.int .i64 ((3 : Nat) : Int)] wr.drew fun e w' => e = .returned (.int .i64 256) ∧ w' = wr.drew := slab_at3 wr.drew
                simp only [szK] at hszb hbk
                have hb2 : 0 ≤ o.a3 ∧ o.a3 + 256 * ((m : Int) + 1) ≤ 10000000 := by have := hbk; simp only [V6.uK] at this; omega
                have gw : IntKind.i64.wrap (o.a3 + 256) = o.a3 + 256 := IntWalk.i64_in _ (by omega)
                have hset := hO.set 3 (.int .i64 (o.a3 + 256))
                have HS := hid (show Blk (wr.setCell ⟨B + 1 + 1, 3, none⟩ (.int .i64 (o.a3 + 256))) (B + 1 + 1) [.int .i64 o.a0, .int .i64 o.a1, .int .i64 o.a2, .int .i64 (o.a3 + 256), .int .i64 o.a4, .int .i64 o.a5] from hset)
                clear hset hO hbk hszb
                go_wp2_with fail
                refine wp_region_still_tail 7 (by kernel_rfl) (by kernel_rfl) ?_
                simp only [List.take_succ_cons, List.take_zero, List.drop_succ_cons, List.drop_zero]
                repeat (first | still_step | still_call hsl)
                refine wpStill_nil ?_
                change wpList _ _ _ _ _ wr.drew
                clear hsl
                go_wp2_with fail
                clear z0 z1 z2 z3 z4 z5 f1
                refine calls_gen (fun W => Blk W (B + 1 + 1) [.int .i64 o.a0, .int .i64 o.a1, .int .i64 o.a2, .int .i64 (o.a3 + 256), .int .i64 o.a4, .int .i64 o.a5] ∧ Keeps (fun b => b < w5.heap.size ∧ b ≠ B + 1 + 1) w5 W) ⟨?_, ?_⟩ (fun W HW => ?_)
                · first | exact HS.out.drew | exact HS.out
                · repeat (first | with_reducible exact HKO.out | with_reducible refine Keeps.drew ?_ | with_reducible refine Keeps.setCell ?_ ?_ _)
                  all_goals simp
                obtain ⟨hB3, hK3⟩ := HW
                refine (slab_at3 W).mono ?_
                rintro e w3 ⟨rfl, rfl⟩
                have HB3 := hid hB3
                have HK3 := hid hK3
                clear hB3 hK3 HS
                go_wp2_with fail
                go_roundw
                case rel => exact ⟨i + 1, m, 256 - 2, 3, o.up 3 256, by first | rfl | go_num, by first | rfl | go_num, by first | rfl | go_num, by omega, by omega, HIM.out, hid ⟨HB3.out, HK3.out, HBD.out, HRQ.out⟩⟩
                case measure => have := HLT.out; simp [intOf]; omega
            · rw [show refL (m + 1) lf k' o = refL m (lf - 1) k' o from by rw [refL, if_neg hl0]] at hres
              have HRQ := hid hres
              have gl : ((lf : Int) == 0) = false := by simp [hl0]
              have gw : IntKind.i64.wrap ((lf : Int) - 1) = (lf : Int) - 1 := IntWalk.i64_in _ (by omega)
              have HO := hid hO
              have HBD := hid (show ∀ j, j ≤ 3 → 0 ≤ o.uK j ∧ o.uK j + 256 * m ≤ 10000000 from fun j hj => by have := hbd j hj; omega)
              have HL := hid (show 0 < lf ∧ lf ≤ 256 ∧ k' ≤ 3 from by omega)
              have HLT := hid hlt
              clear hres hbd hKO HI hk' him hlf hO hl0
              go_wp2_with fail
              go_roundw
              case rel =>
                refine ⟨i + 1, m, lf - 1, k', o, by first | rfl | (have hx := HL.out; congr 1; omega), by first | rfl | go_num, by first | rfl | go_num, HL.out.2.2, by have := HL.out; omega, HIM.out, hid ⟨?_, ?_, HBD.out, HRQ.out⟩⟩
                · repeat (first | exact HO.out | with_reducible refine Blk.drew ?_)
                · repeat (first | with_reducible exact HKO.out | with_reducible refine Keeps.drew ?_)
              case measure => have := HLT.out; simp [intOf]; omega
          · have hm0 : m = 0 := by omega
            subst hm0
            have hfin : o = refL n.toNat R0 K0 zerosN := HI.out.2.2.2
            obtain ⟨hO, hKO, -, -⟩ := HI.out
            have hD1 := HB1.out.keep hKO ⟨HB1.out.lt, by omega⟩
            have hkf : Keeps (· < B) w wr := Hkw.out.trans (hKO.mono fun b hb => by have := HB1.out.lt; constructor <;> omega)
            have Hkf := hid hkf
            have Hfin := hid hfin
            clear hkf hfin
            have d0 := (hD1).cell 0
            have d1 := (hD1).cell 1
            have d2 := (hD1).cell 2
            have d3 := (hD1).cell 3
            have d4 := (hD1).cell 4
            have d5 := (hD1).cell 5
            simp only [List.getElem?_cons_zero, List.getElem?_cons_succ] at d0 d1 d2 d3 d4 d5
            have z0 := (hO).cell 0
            have z1 := (hO).cell 1
            have z2 := (hO).cell 2
            have z3 := (hO).cell 3
            have z4 := (hO).cell 4
            have z5 := (hO).cell 5
            simp only [List.getElem?_cons_zero, List.getElem?_cons_succ] at z0 z1 z2 z3 z4 z5
            have f1 := hD1.free
            clear HI hKO
            go_wp2_with fail
            refine bp_gen (fun W => Blk W (B + 1) [.int .i64 o.a0, .int .i64 o.a1, .int .i64 o.a2, .int .i64 o.a3, .int .i64 o.a4, .int .i64 o.a5] ∧ Keeps (· < B) w W) ⟨?_, ?_⟩ ?_
            · first | with_reducible exact Blk.set6 hD1 _ _ _ _ _ _ (by simp) | with_reducible exact (Blk.set6 hD1 _ _ _ _ _ _ (by simp)).drew
            · repeat (first | with_reducible exact Hkf.out | with_reducible refine Keeps.drew ?_ | with_reducible refine Keeps.setCell ?_ ?_ _)
              all_goals (simp)
            clear hD1 hO d0 d1 d2 d3 d4 d5 z0 z1 z2 z3 z4 z5 f1
            rintro W2 ⟨g1, g2⟩
            have d0 := (g1).cell 0
            have d1 := (g1).cell 1
            have d2 := (g1).cell 2
            have d3 := (g1).cell 3
            have d4 := (g1).cell 4
            have d5 := (g1).cell 5
            simp only [List.getElem?_cons_zero, List.getElem?_cons_succ] at d0 d1 d2 d3 d4 d5
            refine bodyPost_ret (v := .agg #[.int .i64 o.a0, .int .i64 o.a1, .int .i64 o.a2, .int .i64 o.a3, .int .i64 o.a4, .int .i64 o.a5]) ?_ rfl ?_
            · simp [results, Tryd.results15, go_sem, d0, d1, d2, d3, d4, d5]
            · refine hR'.out _ _ ⟨?_, g2⟩
              rw [← Hfin.out]; rfl

end Go.Proofs.YtbmgmjfpoepgpaaDoor
