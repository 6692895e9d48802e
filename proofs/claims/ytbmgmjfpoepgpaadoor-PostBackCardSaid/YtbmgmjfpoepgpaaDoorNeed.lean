/- Contracts: post.Need. Printed by gen/need.py. -/
import Derived.Test.YtbmgmjfpoepgpaaDoorPoolT
import Derived.Test.YtbmgmjfpoepgpaaDoorLay
namespace Go.Proofs.YtbmgmjfpoepgpaaDoor
open Go.RowKit

def needL : Nat → Int → Int → Nat → V6 → V6
  | 0, _, _, _, out => out
  | f + 1, n, room, k, out => if n > room then needL f (n - room) (szK k - 1) (min (k + 1) 3) (out.up k (szK k)) else out
def zerosN : V6 := ⟨0, 0, 0, 0, 0, 0⟩
/-- what Need answers -/
def PlanM.need (p : PlanM) (t n : Int) : V6 :=
  if (p.next t).2 = false then zerosN
  else if (p.next t).1 < 0 then needL (n.toNat + 2) n (szK (p.cls t).1.toNat - 1 - (p.cls t).2) (min ((p.cls t).1.toNat + 1) 3) zerosN
  else needL (n.toNat + 2) n 0 (p.next t).1.toNat zerosN

theorem szK_bd (k : Nat) : 4 ≤ szK k ∧ szK k ≤ 256 := by
  unfold szK; split <;> omega
theorem cls_mod (p : PlanM) (a : Int) {k : Nat} (h : (p.cls a).1 = (k : Int)) : 0 ≤ (p.cls a).2 ∧ (p.cls a).2 < szK k := by
  unfold PlanM.cls at h ⊢
  split at h
  · rw [if_pos (by assumption)]
    simp only at h ⊢
    obtain rfl : k = 0 := by omega
    simp only [szK]; omega
  · rw [if_neg (by assumption)]
    split at h
    · rw [if_pos (by assumption)]
      simp only at h ⊢
      obtain rfl : k = 1 := by omega
      simp only [szK]; omega
    · rw [if_neg (by assumption)]
      split at h
      · rw [if_pos (by assumption)]
        simp only at h ⊢
        obtain rfl : k = 2 := by omega
        simp only [szK]; omega
      · rw [if_neg (by assumption)]
        split at h
        · rw [if_pos (by assumption)]
          simp only at h ⊢
          obtain rfl : k = 3 := by omega
          simp only [szK]; omega
        · simp only at h; omega
theorem next_range (p : PlanM) (t : Int) (h : (p.next t).2 = true) : ((p.next t).1 = -1 ∧ ∃ k : Nat, k ≤ 3 ∧ (p.cls t).1 = (k : Int) ∧ 0 ≤ (p.cls t).2 ∧ (p.cls t).2 + 1 < szK k) ∨ ∃ k : Nat, k ≤ 3 ∧ (p.next t).1 = (k : Int) := by
  have hr := p.cls_range t
  unfold PlanM.next at h ⊢
  split
  · exact Or.inr ⟨0, by omega, rfl⟩
  · split
    · rename_i h3
      simp [*] at h
    · split
      · rename_i h3 h4 h5
        rcases hr with e | ⟨k, hk, e⟩
        · exact absurd (Or.inl (by omega)) h4
        · refine Or.inr ⟨min (k + 1) 3, by omega, ?_⟩
          simp only; rw [e]; split <;> omega
      · rename_i h3 h4 h5
        rcases hr with e | ⟨k, hk, e⟩
        · exact absurd (Or.inl (by omega)) h4
        · have hm := cls_mod p t e
          rw [e, show ((k : Int)).toNat = k from by omega] at h5
          exact Or.inl ⟨rfl, k, hk, e, hm.1, by omega⟩
theorem zerosN_uK (i : Nat) : zerosN.uK i = 0 := by unfold V6.uK zerosN; split <;> rfl
theorem uK_up {o : V6} {c k : Nat} (hc : c ≤ 3) (hk : k ≤ 3) (z : Int) : (o.up c z).uK k = if k = c then o.uK k + z else o.uK k := by
  have h1 : c = 0 ∨ c = 1 ∨ c = 2 ∨ c = 3 := by omega
  have h2 : k = 0 ∨ k = 1 ∨ k = 2 ∨ k = 3 := by omega
  rcases h1 with rfl | rfl | rfl | rfl <;> rcases h2 with rfl | rfl | rfl | rfl <;> simp [V6.up, V6.uK]

set_option maxRecDepth 100000 in
set_option maxHeartbeats 8000000 in
theorem need_call (p : PlanM) (t n : Int) (w : World) (hp : p.Wf) (ht : Tab w) (ha : -9223372036854775808 ≤ t ∧ t ≤ 9223372036854775807) (hn : -9223372036854775808 ≤ n ∧ n ≤ 3000) :
    Calls Tryd.prog 14 #[p.val, .int .i64 t, .int .i64 n] w fun e w' => e = .returned (p.need t n).val ∧ Keeps (· < w.heap.size) w w' := by
  have HT := hid ht
  have HP := hid hp
  have HA := hid ha
  obtain ⟨n0, n1⟩ := hn
  have hmin : min n 1000000 = n := Int.min_eq_left (by omega)
  have hnx := fun w hw => next_call p t w HP.out hw HA.out
  have hcl := fun w hw => class_call p t w HP.out hw HA.out
  have hrg := next_range p t
  have HND : Hid (p.need t n = p.need t n) := rfl
  clear hp ht ha
  refine calls_hide fun R' hR' => ?_
  unfold PlanM.need at hR'
  generalize p.next t = nx at *
  generalize p.cls t = cl at *
  obtain ⟨x1, x2⟩ := nx
  obtain ⟨c1, c2⟩ := cl
  simp only at hrg hR'
  unfold PlanM.val at *
  have Hrg := hid hrg
  clear hrg
  go_enter Tryd.func14, Tryd.ntmps14
  go_wp2_with fail
  refine calls_gen (fun W => Blk W w.heap.size p.flat ∧ Blk W (w.heap.size + 1) [.int .i64 0, .int .i64 0, .int .i64 0, .int .i64 0, .int .i64 0, .int .i64 0] ∧ Blk W (w.heap.size + 1 + 1) [.int .i64 0, .int .i64 0, .int .i64 0, .int .i64 0, .int .i64 0, .int .i64 0] ∧ Keeps (· < w.heap.size) w W) ⟨?_, ?_, ?_, ?_⟩ (fun W0 HW => ?_)
  · have h0 := Blk.new w p.flat 29
    exact (h0.alloc _).alloc _
  · repeat (first | with_reducible assumption | with_reducible exact Blk.new _ _ _ | with_reducible refine Blk.drew ?_ | with_reducible refine Blk.drewN ?_ _ | with_reducible refine Blk.set_ne ?_ _ ?_ | (with_reducible refine Blk.new' _ _ _ ?_; focus (simp; done)) | with_reducible refine Blk.alloc ?_ _)
    all_goals (first | assumption | (simp; done) | (simp; omega))
  · repeat (first | with_reducible assumption | with_reducible exact Blk.new _ _ _ | with_reducible refine Blk.drew ?_ | with_reducible refine Blk.drewN ?_ _ | with_reducible refine Blk.set_ne ?_ _ ?_ | (with_reducible refine Blk.new' _ _ _ ?_; focus (simp; done)) | with_reducible refine Blk.alloc ?_ _)
    all_goals (first | assumption | (simp; done) | (simp; omega))
  · repeat (first | with_reducible assumption | with_reducible exact Keeps.refl _ _ | with_reducible refine Keeps.drew ?_ | with_reducible refine Keeps.drewN ?_ _ | with_reducible refine Keeps.setCell ?_ ?_ _ | with_reducible refine Keeps.alloc ?_ ?_ _)
    all_goals (first | (simp; done) | (simp; omega) | (intro b hb; first | exact hb | omega | (simp; omega) | (simp only [World.size_alloc]; omega)))
  obtain ⟨hA0, hA1, hA2, hkA⟩ := HW
  refine (hnx W0 (HT.out.keep hkA HT.out.2.2.2.2)).mono ?_
  rintro e w1 ⟨rfl, hk1⟩
  have hB0 := hA0.keep hk1 hA0.lt
  have hB1 := hA1.keep hk1 hA1.lt
  have hB2 := hA2.keep hk1 hA2.lt
  have hkw := hkA.trans (hk1.mono fun b hb => by have := hkA.size; omega)
  clear hnx hA0 hA1 hA2 hkA hk1 HND
  generalize hBB : w.heap.size = B at *
  have HBB := hid hBB
  clear hBB
  cases x2 with
  | false =>
    rw [if_pos rfl] at hR'
    have d0 := (hB1).cell 0
    have d1 := (hB1).cell 1
    have d2 := (hB1).cell 2
    have d3 := (hB1).cell 3
    have d4 := (hB1).cell 4
    have d5 := (hB1).cell 5
    simp only [List.getElem?_cons_zero, List.getElem?_cons_succ] at d0 d1 d2 d3 d4 d5
    have z0 := (hB2).cell 0
    have z1 := (hB2).cell 1
    have z2 := (hB2).cell 2
    have z3 := (hB2).cell 3
    have z4 := (hB2).cell 4
    have z5 := (hB2).cell 5
    simp only [List.getElem?_cons_zero, List.getElem?_cons_succ] at z0 z1 z2 z3 z4 z5
    have f1 := hB1.free
    clear hcl
    go_wp2_with fail
    refine bp_gen (fun W => Blk W (B + 1) [.int .i64 0, .int .i64 0, .int .i64 0, .int .i64 0, .int .i64 0, .int .i64 0] ∧ Keeps (· < B) w W) ⟨?_, ?_⟩ ?_
    · first | with_reducible exact Blk.set6 hB1 _ _ _ _ _ _ (by simp) | with_reducible exact (Blk.set6 hB1 _ _ _ _ _ _ (by simp)).drew
    · repeat (first | with_reducible assumption | with_reducible exact Keeps.refl _ _ | with_reducible refine Keeps.drew ?_ | with_reducible refine Keeps.drewN ?_ _ | with_reducible refine Keeps.setCell ?_ ?_ _ | with_reducible refine Keeps.alloc ?_ ?_ _)
      all_goals (first | (simp; done) | (simp; omega) | (intro b hb; first | exact hb | omega | (simp; omega) | (simp only [World.size_alloc]; omega)))
    clear hB0 hB1 hB2 hkw d0 d1 d2 d3 d4 d5 z0 z1 z2 z3 z4 z5 f1
    rintro W2 ⟨g1, g2⟩
    have d0 := (g1).cell 0
    have d1 := (g1).cell 1
    have d2 := (g1).cell 2
    have d3 := (g1).cell 3
    have d4 := (g1).cell 4
    have d5 := (g1).cell 5
    simp only [List.getElem?_cons_zero, List.getElem?_cons_succ] at d0 d1 d2 d3 d4 d5
    refine bodyPost_ret (v := .agg #[.int .i64 0, .int .i64 0, .int .i64 0, .int .i64 0, .int .i64 0, .int .i64 0]) ?_ rfl ?_
    · simp [results, Tryd.results14, go_sem, d0, d1, d2, d3, d4, d5]
    · exact hR'.out _ _ ⟨rfl, g2⟩
  | true =>
    rw [if_neg (by decide)] at hR'
    have HTB := hid (show Tab w1 ∧ B + 1 + 1 < w1.heap.size ∧ 0 < B from ⟨HT.out.keep hkw (by have := HT.out.2.2.2.2; have := HBB.out; omega), hB2.lt, by have := HT.out.2.2.2.2; have := HBB.out; omega⟩)
    have hrg := Hrg.out rfl
    rcases hrg with ⟨rfl, k, hk, rfl, hc0, hc1⟩ | ⟨k, hk, rfl⟩
    · rw [if_pos (by omega), show ((k : Int)).toNat = k from by omega] at hR'
      have g0 : decide ((-1 : Int) < 0) = true := rfl
      have HC1 := hid hc1
      have HC0 := hid hc0
      have HKK := hid hk
      clear hc1 hc0 hk
      have hBf := hB0
      unfold PlanM.flat at hBf
      have p0 := (hBf).cell 0
      have p1 := (hBf).cell 1
      have p2 := (hBf).cell 2
      have p3 := (hBf).cell 3
      have p4 := (hBf).cell 4
      have p5 := (hBf).cell 5
      have p6 := (hBf).cell 6
      have p7 := (hBf).cell 7
      have p8 := (hBf).cell 8
      have p9 := (hBf).cell 9
      have p10 := (hBf).cell 10
      have p11 := (hBf).cell 11
      have p12 := (hBf).cell 12
      have p13 := (hBf).cell 13
      have p14 := (hBf).cell 14
      simp only [List.getElem?_cons_zero, List.getElem?_cons_succ] at p0 p1 p2 p3 p4 p5 p6 p7 p8 p9 p10 p11 p12 p13 p14
      clear hBf
      go_wp2_with fail
      refine (hcl w1 HTB.out.1).mono ?_
      rintro e w2 ⟨rfl, hk2⟩
      have hB0' := hB0.keep hk2 hB0.lt
      have hB1' := hB1.keep hk2 hB1.lt
      have hB2' := hB2.keep hk2 hB2.lt
      have hkw' := hkw.trans (hk2.mono fun b hb => by have := HTB.out.2; omega)
      have HTC := hid (show Tab w2 ∧ B + 1 + 1 < w2.heap.size ∧ 0 < B from ⟨HTB.out.1.keep hk2 (by have := HTB.out.2; omega), hB2'.lt, HTB.out.2.2⟩)
      clear hB0 hB1 hB2 hkw hk2 HTB hB0' hcl p0 p1 p2 p3 p4 p5 p6 p7 p8 p9 p10 p11 p12 p13 p14
      go_wp2_with fail
      refine (slab_call k HKK.out w2 HTC.out.1).mono ?_
      rintro e w5 ⟨rfl, hw5⟩
      subst hw5
      have hszb := szK_bd k
      have HSZ := hid (szK_bd k)
      generalize szK k = S at *
      obtain ⟨R0, hR0⟩ : ∃ R0, R0 = S - 1 - c2 := ⟨_, rfl⟩
      obtain ⟨K0, hK0⟩ : ∃ K0 : Nat, K0 = min (k + 1) 3 := ⟨_, rfl⟩
      rw [← hR0, ← hK0] at hR'
      have hc0 := HC0.out
      have hc1 := HC1.out
      have hkk := HKK.out
      have gs1 : IntKind.i64.wrap (S - 1) = S - 1 := IntWalk.i64_in _ (by omega)
      have gs2 : IntKind.i64.wrap (S - 1 - c2) = R0 := by rw [hR0]; exact IntWalk.i64_in _ (by omega)
      have gk1 : IntKind.i64.wrap ((k : Int) + 1) = (k : Int) + 1 := IntWalk.i64_in _ (by omega)
      have HKM := hid hK0
      have HR0 := hid (show 0 ≤ R0 ∧ R0 ≤ 256 ∧ K0 ≤ 3 from by omega)
      clear hR0 hK0 hc0 hc1 hkk hszb HC0 HC1 HKK HSZ
      go_wp2_with fail
      all_goals clear gs1 gs2 gk1
      all_goals
        have hB1 := hB1'
        have hB2 := hB2'
        have hkw := hkw'
        clear hB1' hB2' hkw'
      case inr =>
        have HB1 := hid hB1
        have Hkw := hid hkw
        clear hB1 hkw
        have hB2' := hB2
        clear hB2
        go_loopw [2, 8, 10] (fun vn vk vr wr => ∃ (f : Nat) (n' r' : Int) (k' : Nat) (o : V6), vn = .int .i64 n' ∧ vk = .int .i64 (k' : Int) ∧ vr = .int .i64 r' ∧ k' ≤ 3 ∧ -9223372036854775808 ≤ n' ∧ n' ≤ 3000 ∧ 0 ≤ r' ∧ r' ≤ 256 ∧
          n'.toNat + (if r' ≤ 0 then 1 else 0) < f ∧ Hid (Blk wr (B + 1 + 1) [.int .i64 o.a0, .int .i64 o.a1, .int .i64 o.a2, .int .i64 o.a3, .int .i64 o.a4, .int .i64 o.a5] ∧ Keeps (fun b => b < w5.heap.size ∧ b ≠ B + 1 + 1) w5 wr ∧ (∀ i, i ≤ 3 → 0 ≤ o.uK i ∧ o.uK i + 256 * f ≤ 10000000) ∧ needL f n' r' k' o = needL (n.toNat + 2) n R0 K0 zerosN)) (fun vn _ vr _ => 2 * (intOf vn).toNat + (if intOf vr ≤ 0 then 1 else 0))
        case atStart => exact ⟨n.toNat + 2, n, R0, K0, zerosN, by first | rfl | go_num, by first | rfl | go_num | (have hx := HKM.out; congr 1; omega), by first | rfl | go_num, HR0.out.2.2, n0, n1, HR0.out.1, HR0.out.2.1, by split <;> omega, hid ⟨hB2', Keeps.refl _ _, fun i hi => by rw [zerosN_uK]; omega, rfl⟩⟩
        case round =>
          obtain ⟨f, n', r', k', o, rfl, rfl, rfl, hk', hn0, hn1, hr0, hr1, hf, HI⟩ := hrel
          by_cases hgt : n' > r'
          · obtain ⟨f, rfl⟩ : ∃ g, f = g + 1 := ⟨f - 1, by omega⟩
            obtain ⟨hO, hKO, hbd, hres⟩ := HI.out
            rw [show needL (f + 1) n' r' k' o = needL f (n' - r') (szK k' - 1) (min (k' + 1) 3) (o.up k' (szK k')) from by rw [needL, if_pos hgt]] at hres
            have HRQ := hid hres
            have hf2 : (n' - r').toNat + 0 < f := by split at hf <;> omega
            have HF := hid hf2
            have HGT := hid hgt
            have hbk := hbd k' hk'
            have hszb := szK_bd k'
            have HBD := hid (show ∀ i, i ≤ 3 → 0 ≤ (o.up k' (szK k')).uK i ∧ (o.up k' (szK k')).uK i + 256 * f ≤ 10000000 from by
              intro i hi
              have := hbd i hi
              rw [uK_up hk' hi]
              split <;> omega)
            have hme : 2 * (n' - r').toNat + 0 < 2 * n'.toNat + (if r' ≤ 0 then 1 else 0) := by split <;> omega
            have HME := hid hme
            have HKO := hid hKO
            have HN := hid (And.intro hn0 (And.intro hn1 (And.intro hr0 hr1)))
            have g1 : IntKind.i64.wrap (n' - r') = n' - r' := IntWalk.i64_in _ (by omega)
            have HNN := hid (show -9223372036854775808 ≤ n' - r' ∧ n' - r' ≤ 3000 from by omega)
            have hcases : k' = 0 ∨ k' = 1 ∨ k' = 2 ∨ k' = 3 := by omega
            have hTb : Tab wr := HTC.out.1.keep hKO ⟨by have := HTC.out.2; omega, by omega⟩
            clear hres hf2 hme hf hbd hKO HI hk' hn0 hn1 hr0 hr1
            rcases hcases with rfl | rfl | rfl | rfl
            · have z0 := (hO).cell 0
              have z1 := (hO).cell 1
              have z2 := (hO).cell 2
              have z3 := (hO).cell 3
              have z4 := (hO).cell 4
              have z5 := (hO).cell 5
              simp only [List.getElem?_cons_zero, List.getElem?_cons_succ] at z0 z1 z2 z3 z4 z5
              have f1 := hO.free
              have hsl : Calls Tryd.prog 41 #[.int .i64 ((0 : Nat) : Int)] wr.drew fun e w' => e = .returned (.int .i64 4) ∧ w' = wr.drew := slab_call 0 (by omega) wr.drew (show Tab wr.drew from hTb)
              simp only [szK] at hszb hbk
              have hb2 : 0 ≤ o.a0 ∧ o.a0 + 256 * ((f : Int) + 1) ≤ 10000000 := by have := hbk; simp only [V6.uK] at this; omega
              have gw : IntKind.i64.wrap (o.a0 + 4) = o.a0 + 4 := IntWalk.i64_in _ (by omega)
              have hset := hO.set 0 (.int .i64 (o.a0 + 4))
              have HS := hid (show Blk (wr.setCell ⟨B + 1 + 1, 0, none⟩ (.int .i64 (o.a0 + 4))) (B + 1 + 1) [.int .i64 (o.a0 + 4), .int .i64 o.a1, .int .i64 o.a2, .int .i64 o.a3, .int .i64 o.a4, .int .i64 o.a5] from hset)
              clear hset hO hbk hszb
              go_wp2_with fail
              refine wp_region_still_tail 7 (by kernel_rfl) (by kernel_rfl) ?_
              simp only [List.take_succ_cons, List.take_zero, List.drop_succ_cons, List.drop_zero]
              repeat (first | still_step | still_call hsl)
              refine wpStill_nil ?_
              change wpList _ _ _ _ _ wr.drew
              clear hsl
              have HTW := hid hTb
              clear hTb
              go_wp2_with fail
              clear z0 z1 z2 z3 z4 z5 f1
              refine calls_gen (fun W => Tab W ∧ Blk W (B + 1 + 1) [.int .i64 (o.a0 + 4), .int .i64 o.a1, .int .i64 o.a2, .int .i64 o.a3, .int .i64 o.a4, .int .i64 o.a5] ∧ Keeps (fun b => b < w5.heap.size ∧ b ≠ B + 1 + 1) w5 W) ⟨?_, ?_, ?_⟩ (fun W HW => ?_)
              · refine HTW.out.keep (K := fun b => b ≠ B + 1 + 1) ?_ (by omega)
                repeat (first | with_reducible exact Keeps.refl _ _ | with_reducible refine Keeps.drew ?_ | with_reducible refine Keeps.setCell ?_ ?_ _)
                all_goals simp
              · first | exact HS.out.drew | exact HS.out
              · repeat (first | with_reducible exact HKO.out | with_reducible refine Keeps.drew ?_ | with_reducible refine Keeps.setCell ?_ ?_ _)
                all_goals simp
              obtain ⟨hT3, hB3, hK3⟩ := HW
              refine (show Calls Tryd.prog 41 #[.int .i64 ((0 : Nat) : Int)] W (fun e w' => e = .returned (.int .i64 4) ∧ w' = W) from slab_call 0 (by omega) W hT3).mono ?_
              rintro e w3 ⟨rfl, rfl⟩
              have HB3 := hid hB3
              have HK3 := hid hK3
              clear hT3 hB3 hK3 HS
              go_wp2_with fail
              go_roundw
              case rel => exact ⟨f, n' - r', 4 - 1, 1, o.up 0 4, by first | rfl | go_num, by first | rfl | go_num, by first | rfl | go_num, by omega, HNN.out.1, HNN.out.2, by omega, by omega, by simpa using HF.out, hid ⟨HB3.out, HK3.out, HBD.out, HRQ.out⟩⟩
              case measure => obtain ⟨m1, m2, m3, m4⟩ := HN.out; have mg := HGT.out; by_cases hz : r' ≤ 0 <;> simp [intOf, hz] <;> omega
            · have z0 := (hO).cell 0
              have z1 := (hO).cell 1
              have z2 := (hO).cell 2
              have z3 := (hO).cell 3
              have z4 := (hO).cell 4
              have z5 := (hO).cell 5
              simp only [List.getElem?_cons_zero, List.getElem?_cons_succ] at z0 z1 z2 z3 z4 z5
              have f1 := hO.free
              have hsl : Calls Tryd.prog 41 #[.int .i64 ((1 : Nat) : Int)] wr.drew fun e w' => e = .returned (.int .i64 16) ∧ w' = wr.drew := slab_call 1 (by omega) wr.drew (show Tab wr.drew from hTb)
              simp only [szK] at hszb hbk
              have hb2 : 0 ≤ o.a1 ∧ o.a1 + 256 * ((f : Int) + 1) ≤ 10000000 := by have := hbk; simp only [V6.uK] at this; omega
              have gw : IntKind.i64.wrap (o.a1 + 16) = o.a1 + 16 := IntWalk.i64_in _ (by omega)
              have hset := hO.set 1 (.int .i64 (o.a1 + 16))
              have HS := hid (show Blk (wr.setCell ⟨B + 1 + 1, 1, none⟩ (.int .i64 (o.a1 + 16))) (B + 1 + 1) [.int .i64 o.a0, .int .i64 (o.a1 + 16), .int .i64 o.a2, .int .i64 o.a3, .int .i64 o.a4, .int .i64 o.a5] from hset)
              clear hset hO hbk hszb
              go_wp2_with fail
              refine wp_region_still_tail 7 (by kernel_rfl) (by kernel_rfl) ?_
              simp only [List.take_succ_cons, List.take_zero, List.drop_succ_cons, List.drop_zero]
              repeat (first | still_step | still_call hsl)
              refine wpStill_nil ?_
              change wpList _ _ _ _ _ wr.drew
              clear hsl
              have HTW := hid hTb
              clear hTb
              go_wp2_with fail
              clear z0 z1 z2 z3 z4 z5 f1
              refine calls_gen (fun W => Tab W ∧ Blk W (B + 1 + 1) [.int .i64 o.a0, .int .i64 (o.a1 + 16), .int .i64 o.a2, .int .i64 o.a3, .int .i64 o.a4, .int .i64 o.a5] ∧ Keeps (fun b => b < w5.heap.size ∧ b ≠ B + 1 + 1) w5 W) ⟨?_, ?_, ?_⟩ (fun W HW => ?_)
              · refine HTW.out.keep (K := fun b => b ≠ B + 1 + 1) ?_ (by omega)
                repeat (first | with_reducible exact Keeps.refl _ _ | with_reducible refine Keeps.drew ?_ | with_reducible refine Keeps.setCell ?_ ?_ _)
                all_goals simp
              · first | exact HS.out.drew | exact HS.out
              · repeat (first | with_reducible exact HKO.out | with_reducible refine Keeps.drew ?_ | with_reducible refine Keeps.setCell ?_ ?_ _)
                all_goals simp
              obtain ⟨hT3, hB3, hK3⟩ := HW
              refine (show Calls Tryd.prog 41 #[.int .i64 ((1 : Nat) : Int)] W (fun e w' => e = .returned (.int .i64 16) ∧ w' = W) from slab_call 1 (by omega) W hT3).mono ?_
              rintro e w3 ⟨rfl, rfl⟩
              have HB3 := hid hB3
              have HK3 := hid hK3
              clear hT3 hB3 hK3 HS
              go_wp2_with fail
              go_roundw
              case rel => exact ⟨f, n' - r', 16 - 1, 2, o.up 1 16, by first | rfl | go_num, by first | rfl | go_num, by first | rfl | go_num, by omega, HNN.out.1, HNN.out.2, by omega, by omega, by simpa using HF.out, hid ⟨HB3.out, HK3.out, HBD.out, HRQ.out⟩⟩
              case measure => obtain ⟨m1, m2, m3, m4⟩ := HN.out; have mg := HGT.out; by_cases hz : r' ≤ 0 <;> simp [intOf, hz] <;> omega
            · have z0 := (hO).cell 0
              have z1 := (hO).cell 1
              have z2 := (hO).cell 2
              have z3 := (hO).cell 3
              have z4 := (hO).cell 4
              have z5 := (hO).cell 5
              simp only [List.getElem?_cons_zero, List.getElem?_cons_succ] at z0 z1 z2 z3 z4 z5
              have f1 := hO.free
              have hsl : Calls Tryd.prog 41 #[.int .i64 ((2 : Nat) : Int)] wr.drew fun e w' => e = .returned (.int .i64 64) ∧ w' = wr.drew := slab_call 2 (by omega) wr.drew (show Tab wr.drew from hTb)
              simp only [szK] at hszb hbk
              have hb2 : 0 ≤ o.a2 ∧ o.a2 + 256 * ((f : Int) + 1) ≤ 10000000 := by have := hbk; simp only [V6.uK] at this; omega
              have gw : IntKind.i64.wrap (o.a2 + 64) = o.a2 + 64 := IntWalk.i64_in _ (by omega)
              have hset := hO.set 2 (.int .i64 (o.a2 + 64))
              have HS := hid (show Blk (wr.setCell ⟨B + 1 + 1, 2, none⟩ (.int .i64 (o.a2 + 64))) (B + 1 + 1) [.int .i64 o.a0, .int .i64 o.a1, .int .i64 (o.a2 + 64), .int .i64 o.a3, .int .i64 o.a4, .int .i64 o.a5] from hset)
              clear hset hO hbk hszb
              go_wp2_with fail
              refine wp_region_still_tail 7 (by kernel_rfl) (by kernel_rfl) ?_
              simp only [List.take_succ_cons, List.take_zero, List.drop_succ_cons, List.drop_zero]
              repeat (first | still_step | still_call hsl)
              refine wpStill_nil ?_
              change wpList _ _ _ _ _ wr.drew
              clear hsl
              have HTW := hid hTb
              clear hTb
              go_wp2_with fail
              clear z0 z1 z2 z3 z4 z5 f1
              refine calls_gen (fun W => Tab W ∧ Blk W (B + 1 + 1) [.int .i64 o.a0, .int .i64 o.a1, .int .i64 (o.a2 + 64), .int .i64 o.a3, .int .i64 o.a4, .int .i64 o.a5] ∧ Keeps (fun b => b < w5.heap.size ∧ b ≠ B + 1 + 1) w5 W) ⟨?_, ?_, ?_⟩ (fun W HW => ?_)
              · refine HTW.out.keep (K := fun b => b ≠ B + 1 + 1) ?_ (by omega)
                repeat (first | with_reducible exact Keeps.refl _ _ | with_reducible refine Keeps.drew ?_ | with_reducible refine Keeps.setCell ?_ ?_ _)
                all_goals simp
              · first | exact HS.out.drew | exact HS.out
              · repeat (first | with_reducible exact HKO.out | with_reducible refine Keeps.drew ?_ | with_reducible refine Keeps.setCell ?_ ?_ _)
                all_goals simp
              obtain ⟨hT3, hB3, hK3⟩ := HW
              refine (show Calls Tryd.prog 41 #[.int .i64 ((2 : Nat) : Int)] W (fun e w' => e = .returned (.int .i64 64) ∧ w' = W) from slab_call 2 (by omega) W hT3).mono ?_
              rintro e w3 ⟨rfl, rfl⟩
              have HB3 := hid hB3
              have HK3 := hid hK3
              clear hT3 hB3 hK3 HS
              go_wp2_with fail
              go_roundw
              case rel => exact ⟨f, n' - r', 64 - 1, 3, o.up 2 64, by first | rfl | go_num, by first | rfl | go_num, by first | rfl | go_num, by omega, HNN.out.1, HNN.out.2, by omega, by omega, by simpa using HF.out, hid ⟨HB3.out, HK3.out, HBD.out, HRQ.out⟩⟩
              case measure => obtain ⟨m1, m2, m3, m4⟩ := HN.out; have mg := HGT.out; by_cases hz : r' ≤ 0 <;> simp [intOf, hz] <;> omega
            · have z0 := (hO).cell 0
              have z1 := (hO).cell 1
              have z2 := (hO).cell 2
              have z3 := (hO).cell 3
              have z4 := (hO).cell 4
              have z5 := (hO).cell 5
              simp only [List.getElem?_cons_zero, List.getElem?_cons_succ] at z0 z1 z2 z3 z4 z5
              have f1 := hO.free
              have hsl : Calls Tryd.prog 41 #[.int .i64 ((3 : Nat) : Int)] wr.drew fun e w' => e = .returned (.int .i64 256) ∧ w' = wr.drew := slab_call 3 (by omega) wr.drew (show Tab wr.drew from hTb)
              simp only [szK] at hszb hbk
              have hb2 : 0 ≤ o.a3 ∧ o.a3 + 256 * ((f : Int) + 1) ≤ 10000000 := by have := hbk; simp only [V6.uK] at this; omega
              have gw : IntKind.i64.wrap (o.a3 + 256) = o.a3 + 256 := IntWalk.i64_in _ (by omega)
              have hset := hO.set 3 (.int .i64 (o.a3 + 256))
              have HS := hid (show Blk (wr.setCell ⟨B + 1 + 1, 3, none⟩ (.int .i64 (o.a3 + 256))) (B + 1 + 1) [.int .i64 o.a0, .int .i64 o.a1, .int .i64 o.a2, .int .i64 (o.a3 + 256), .int .i64 o.a4, .int .i64 o.a5] from hset)
              clear hset hO hbk hszb
              go_wp2_with fail
              refine wp_region_still_tail 7 (by kernel_rfl) (by kernel_rfl) ?_
              simp only [List.take_succ_cons, List.take_zero, List.drop_succ_cons, List.drop_zero]
              repeat (first | still_step | still_call hsl)
              refine wpStill_nil ?_
              change wpList _ _ _ _ _ wr.drew
              clear hsl
              have HTW := hid hTb
              clear hTb
              go_wp2_with fail
              clear z0 z1 z2 z3 z4 z5 f1
              refine calls_gen (fun W => Tab W ∧ Blk W (B + 1 + 1) [.int .i64 o.a0, .int .i64 o.a1, .int .i64 o.a2, .int .i64 (o.a3 + 256), .int .i64 o.a4, .int .i64 o.a5] ∧ Keeps (fun b => b < w5.heap.size ∧ b ≠ B + 1 + 1) w5 W) ⟨?_, ?_, ?_⟩ (fun W HW => ?_)
              · refine HTW.out.keep (K := fun b => b ≠ B + 1 + 1) ?_ (by omega)
                repeat (first | with_reducible exact Keeps.refl _ _ | with_reducible refine Keeps.drew ?_ | with_reducible refine Keeps.setCell ?_ ?_ _)
                all_goals simp
              · first | exact HS.out.drew | exact HS.out
              · repeat (first | with_reducible exact HKO.out | with_reducible refine Keeps.drew ?_ | with_reducible refine Keeps.setCell ?_ ?_ _)
                all_goals simp
              obtain ⟨hT3, hB3, hK3⟩ := HW
              refine (show Calls Tryd.prog 41 #[.int .i64 ((3 : Nat) : Int)] W (fun e w' => e = .returned (.int .i64 256) ∧ w' = W) from slab_call 3 (by omega) W hT3).mono ?_
              rintro e w3 ⟨rfl, rfl⟩
              have HB3 := hid hB3
              have HK3 := hid hK3
              clear hT3 hB3 hK3 HS
              go_wp2_with fail
              go_roundw
              case rel => exact ⟨f, n' - r', 256 - 1, 3, o.up 3 256, by first | rfl | go_num, by first | rfl | go_num, by first | rfl | go_num, by omega, HNN.out.1, HNN.out.2, by omega, by omega, by simpa using HF.out, hid ⟨HB3.out, HK3.out, HBD.out, HRQ.out⟩⟩
              case measure => obtain ⟨m1, m2, m3, m4⟩ := HN.out; have mg := HGT.out; by_cases hz : r' ≤ 0 <;> simp [intOf, hz] <;> omega
          · have HE := hid hgt
            have hfin : o = needL (n.toNat + 2) n R0 K0 zerosN := by
              have := HI.out.2.2.2
              cases f with
              | zero => omega
              | succ f => rw [needL, if_neg hgt] at this; exact this
            obtain ⟨hO, hKO, -, -⟩ := HI.out
            have hD1 := HB1.out.keep hKO ⟨HB1.out.lt, by omega⟩
            have hkf : Keeps (· < B) w wr := Hkw.out.trans (hKO.mono fun b hb => by have := HB1.out.lt; constructor <;> omega)
            have Hkf := hid hkf
            have Hfin := hid hfin
            clear hkf hfin
            have d0 := (hD1).cell 0
            have d1 := (hD1).cell 1
            have d2 := (hD1).cell 2
            have d3 := (hD1).cell 3
            have d4 := (hD1).cell 4
            have d5 := (hD1).cell 5
            simp only [List.getElem?_cons_zero, List.getElem?_cons_succ] at d0 d1 d2 d3 d4 d5
            have z0 := (hO).cell 0
            have z1 := (hO).cell 1
            have z2 := (hO).cell 2
            have z3 := (hO).cell 3
            have z4 := (hO).cell 4
            have z5 := (hO).cell 5
            simp only [List.getElem?_cons_zero, List.getElem?_cons_succ] at z0 z1 z2 z3 z4 z5
            have f1 := hD1.free
            clear HI hKO
            go_wp2_with fail
            refine bp_gen (fun W => Blk W (B + 1) [.int .i64 o.a0, .int .i64 o.a1, .int .i64 o.a2, .int .i64 o.a3, .int .i64 o.a4, .int .i64 o.a5] ∧ Keeps (· < B) w W) ⟨?_, ?_⟩ ?_
            · first | with_reducible exact Blk.set6 hD1 _ _ _ _ _ _ (by simp) | with_reducible exact (Blk.set6 hD1 _ _ _ _ _ _ (by simp)).drew
            · repeat (first | with_reducible exact Hkf.out | with_reducible refine Keeps.drew ?_ | with_reducible refine Keeps.setCell ?_ ?_ _)
              all_goals (simp)
            clear hD1 hO d0 d1 d2 d3 d4 d5 z0 z1 z2 z3 z4 z5 f1
            rintro W2 ⟨g1, g2⟩
            have d0 := (g1).cell 0
            have d1 := (g1).cell 1
            have d2 := (g1).cell 2
            have d3 := (g1).cell 3
            have d4 := (g1).cell 4
            have d5 := (g1).cell 5
            simp only [List.getElem?_cons_zero, List.getElem?_cons_succ] at d0 d1 d2 d3 d4 d5
            refine bodyPost_ret (v := .agg #[.int .i64 o.a0, .int .i64 o.a1, .int .i64 o.a2, .int .i64 o.a3, .int .i64 o.a4, .int .i64 o.a5]) ?_ rfl ?_
            · simp [results, Tryd.results14, go_sem, d0, d1, d2, d3, d4, d5]
            · refine hR'.out _ _ ⟨?_, g2⟩
              rw [← Hfin.out]; rfl
      case inl =>
        have HB1 := hid hB1
        have Hkw := hid hkw
        clear hB1 hkw
        have hB2' := hB2
        clear hB2
        go_loopw [2, 8, 10] (fun vn vk vr wr => ∃ (f : Nat) (n' r' : Int) (k' : Nat) (o : V6), vn = .int .i64 n' ∧ vk = .int .i64 (k' : Int) ∧ vr = .int .i64 r' ∧ k' ≤ 3 ∧ -9223372036854775808 ≤ n' ∧ n' ≤ 3000 ∧ 0 ≤ r' ∧ r' ≤ 256 ∧
          n'.toNat + (if r' ≤ 0 then 1 else 0) < f ∧ Hid (Blk wr (B + 1 + 1) [.int .i64 o.a0, .int .i64 o.a1, .int .i64 o.a2, .int .i64 o.a3, .int .i64 o.a4, .int .i64 o.a5] ∧ Keeps (fun b => b < w5.heap.size ∧ b ≠ B + 1 + 1) w5 wr ∧ (∀ i, i ≤ 3 → 0 ≤ o.uK i ∧ o.uK i + 256 * f ≤ 10000000) ∧ needL f n' r' k' o = needL (n.toNat + 2) n R0 K0 zerosN)) (fun vn _ vr _ => 2 * (intOf vn).toNat + (if intOf vr ≤ 0 then 1 else 0))
        case atStart => exact ⟨n.toNat + 2, n, R0, K0, zerosN, by first | rfl | go_num, by first | rfl | go_num | (have hx := HKM.out; congr 1; omega), by first | rfl | go_num, HR0.out.2.2, n0, n1, HR0.out.1, HR0.out.2.1, by split <;> omega, hid ⟨hB2', Keeps.refl _ _, fun i hi => by rw [zerosN_uK]; omega, rfl⟩⟩
        case round =>
          obtain ⟨f, n', r', k', o, rfl, rfl, rfl, hk', hn0, hn1, hr0, hr1, hf, HI⟩ := hrel
          by_cases hgt : n' > r'
          · obtain ⟨f, rfl⟩ : ∃ g, f = g + 1 := ⟨f - 1, by omega⟩
            obtain ⟨hO, hKO, hbd, hres⟩ := HI.out
            rw [show needL (f + 1) n' r' k' o = needL f (n' - r') (szK k' - 1) (min (k' + 1) 3) (o.up k' (szK k')) from by rw [needL, if_pos hgt]] at hres
            have HRQ := hid hres
            have hf2 : (n' - r').toNat + 0 < f := by split at hf <;> omega
            have HF := hid hf2
            have HGT := hid hgt
            have hbk := hbd k' hk'
            have hszb := szK_bd k'
            have HBD := hid (show ∀ i, i ≤ 3 → 0 ≤ (o.up k' (szK k')).uK i ∧ (o.up k' (szK k')).uK i + 256 * f ≤ 10000000 from by
              intro i hi
              have := hbd i hi
              rw [uK_up hk' hi]
              split <;> omega)
            have hme : 2 * (n' - r').toNat + 0 < 2 * n'.toNat + (if r' ≤ 0 then 1 else 0) := by split <;> omega
            have HME := hid hme
            have HKO := hid hKO
            have HN := hid (And.intro hn0 (And.intro hn1 (And.intro hr0 hr1)))
            have g1 : IntKind.i64.wrap (n' - r') = n' - r' := IntWalk.i64_in _ (by omega)
            have HNN := hid (show -9223372036854775808 ≤ n' - r' ∧ n' - r' ≤ 3000 from by omega)
            have hcases : k' = 0 ∨ k' = 1 ∨ k' = 2 ∨ k' = 3 := by omega
            have hTb : Tab wr := HTC.out.1.keep hKO ⟨by have := HTC.out.2; omega, by omega⟩
            clear hres hf2 hme hf hbd hKO HI hk' hn0 hn1 hr0 hr1
            rcases hcases with rfl | rfl | rfl | rfl
            · have z0 := (hO).cell 0
              have z1 := (hO).cell 1
              have z2 := (hO).cell 2
              have z3 := (hO).cell 3
              have z4 := (hO).cell 4
              have z5 := (hO).cell 5
              simp only [List.getElem?_cons_zero, List.getElem?_cons_succ] at z0 z1 z2 z3 z4 z5
              have f1 := hO.free
              have hsl : Calls Tryd.prog 41 #[.int .i64 ((0 : Nat) : Int)] wr.drew fun e w' => e = .returned (.int .i64 4) ∧ w' = wr.drew := slab_call 0 (by omega) wr.drew (show Tab wr.drew from hTb)
              simp only [szK] at hszb hbk
              have hb2 : 0 ≤ o.a0 ∧ o.a0 + 256 * ((f : Int) + 1) ≤ 10000000 := by have := hbk; simp only [V6.uK] at this; omega
              have gw : IntKind.i64.wrap (o.a0 + 4) = o.a0 + 4 := IntWalk.i64_in _ (by omega)
              have hset := hO.set 0 (.int .i64 (o.a0 + 4))
              have HS := hid (show Blk (wr.setCell ⟨B + 1 + 1, 0, none⟩ (.int .i64 (o.a0 + 4))) (B + 1 + 1) [.int .i64 (o.a0 + 4), .int .i64 o.a1, .int .i64 o.a2, .int .i64 o.a3, .int .i64 o.a4, .int .i64 o.a5] from hset)
              clear hset hO hbk hszb
              go_wp2_with fail
              refine wp_region_still_tail 7 (by kernel_rfl) (by kernel_rfl) ?_
              simp only [List.take_succ_cons, List.take_zero, List.drop_succ_cons, List.drop_zero]
              repeat (first | still_step | still_call hsl)
              refine wpStill_nil ?_
              change wpList _ _ _ _ _ wr.drew
              clear hsl
              have HTW := hid hTb
              clear hTb
              go_wp2_with fail
              clear z0 z1 z2 z3 z4 z5 f1
              refine calls_gen (fun W => Tab W ∧ Blk W (B + 1 + 1) [.int .i64 (o.a0 + 4), .int .i64 o.a1, .int .i64 o.a2, .int .i64 o.a3, .int .i64 o.a4, .int .i64 o.a5] ∧ Keeps (fun b => b < w5.heap.size ∧ b ≠ B + 1 + 1) w5 W) ⟨?_, ?_, ?_⟩ (fun W HW => ?_)
              · refine HTW.out.keep (K := fun b => b ≠ B + 1 + 1) ?_ (by omega)
                repeat (first | with_reducible exact Keeps.refl _ _ | with_reducible refine Keeps.drew ?_ | with_reducible refine Keeps.setCell ?_ ?_ _)
                all_goals simp
              · first | exact HS.out.drew | exact HS.out
              · repeat (first | with_reducible exact HKO.out | with_reducible refine Keeps.drew ?_ | with_reducible refine Keeps.setCell ?_ ?_ _)
                all_goals simp
              obtain ⟨hT3, hB3, hK3⟩ := HW
              refine (show Calls Tryd.prog 41 #[.int .i64 ((0 : Nat) : Int)] W (fun e w' => e = .returned (.int .i64 4) ∧ w' = W) from slab_call 0 (by omega) W hT3).mono ?_
              rintro e w3 ⟨rfl, rfl⟩
              have HB3 := hid hB3
              have HK3 := hid hK3
              clear hT3 hB3 hK3 HS
              go_wp2_with fail
              go_roundw
              case rel => exact ⟨f, n' - r', 4 - 1, 1, o.up 0 4, by first | rfl | go_num, by first | rfl | go_num, by first | rfl | go_num, by omega, HNN.out.1, HNN.out.2, by omega, by omega, by simpa using HF.out, hid ⟨HB3.out, HK3.out, HBD.out, HRQ.out⟩⟩
              case measure => obtain ⟨m1, m2, m3, m4⟩ := HN.out; have mg := HGT.out; by_cases hz : r' ≤ 0 <;> simp [intOf, hz] <;> omega
            · have z0 := (hO).cell 0
              have z1 := (hO).cell 1
              have z2 := (hO).cell 2
              have z3 := (hO).cell 3
              have z4 := (hO).cell 4
              have z5 := (hO).cell 5
              simp only [List.getElem?_cons_zero, List.getElem?_cons_succ] at z0 z1 z2 z3 z4 z5
              have f1 := hO.free
              have hsl : Calls Tryd.prog 41 #[.int .i64 ((1 : Nat) : Int)] wr.drew fun e w' => e = .returned (.int .i64 16) ∧ w' = wr.drew := slab_call 1 (by omega) wr.drew (show Tab wr.drew from hTb)
              simp only [szK] at hszb hbk
              have hb2 : 0 ≤ o.a1 ∧ o.a1 + 256 * ((f : Int) + 1) ≤ 10000000 := by have := hbk; simp only [V6.uK] at this; omega
              have gw : IntKind.i64.wrap (o.a1 + 16) = o.a1 + 16 := IntWalk.i64_in _ (by omega)
              have hset := hO.set 1 (.int .i64 (o.a1 + 16))
              have HS := hid (show Blk (wr.setCell ⟨B + 1 + 1, 1, none⟩ (.int .i64 (o.a1 + 16))) (B + 1 + 1) [.int .i64 o.a0, .int .i64 (o.a1 + 16), .int .i64 o.a2, .int .i64 o.a3, .int .i64 o.a4, .int .i64 o.a5] from hset)
              clear hset hO hbk hszb
              go_wp2_with fail
              refine wp_region_still_tail 7 (by kernel_rfl) (by kernel_rfl) ?_
              simp only [List.take_succ_cons, List.take_zero, List.drop_succ_cons, List.drop_zero]
              repeat (first | still_step | still_call hsl)
              refine wpStill_nil ?_
              change wpList _ _ _ _ _ wr.drew
              clear hsl
              have HTW := hid hTb
              clear hTb
              go_wp2_with fail
              clear z0 z1 z2 z3 z4 z5 f1
              refine calls_gen (fun W => Tab W ∧ Blk W (B + 1 + 1) [.int .i64 o.a0, .int .i64 (o.a1 + 16), .int .i64 o.a2, .int .i64 o.a3, .int .i64 o.a4, .int .i64 o.a5] ∧ Keeps (fun b => b < w5.heap.size ∧ b ≠ B + 1 + 1) w5 W) ⟨?_, ?_, ?_⟩ (fun W HW => ?_)
              · refine HTW.out.keep (K := fun b => b ≠ B + 1 + 1) ?_ (by omega)
                repeat (first | with_reducible exact Keeps.refl _ _ | with_reducible refine Keeps.drew ?_ | with_reducible refine Keeps.setCell ?_ ?_ _)
                all_goals simp
              · first | exact HS.out.drew | exact HS.out
              · repeat (first | with_reducible exact HKO.out | with_reducible refine Keeps.drew ?_ | with_reducible refine Keeps.setCell ?_ ?_ _)
                all_goals simp
              obtain ⟨hT3, hB3, hK3⟩ := HW
              refine (show Calls Tryd.prog 41 #[.int .i64 ((1 : Nat) : Int)] W (fun e w' => e = .returned (.int .i64 16) ∧ w' = W) from slab_call 1 (by omega) W hT3).mono ?_
              rintro e w3 ⟨rfl, rfl⟩
              have HB3 := hid hB3
              have HK3 := hid hK3
              clear hT3 hB3 hK3 HS
              go_wp2_with fail
              go_roundw
              case rel => exact ⟨f, n' - r', 16 - 1, 2, o.up 1 16, by first | rfl | go_num, by first | rfl | go_num, by first | rfl | go_num, by omega, HNN.out.1, HNN.out.2, by omega, by omega, by simpa using HF.out, hid ⟨HB3.out, HK3.out, HBD.out, HRQ.out⟩⟩
              case measure => obtain ⟨m1, m2, m3, m4⟩ := HN.out; have mg := HGT.out; by_cases hz : r' ≤ 0 <;> simp [intOf, hz] <;> omega
            · have z0 := (hO).cell 0
              have z1 := (hO).cell 1
              have z2 := (hO).cell 2
              have z3 := (hO).cell 3
              have z4 := (hO).cell 4
              have z5 := (hO).cell 5
              simp only [List.getElem?_cons_zero, List.getElem?_cons_succ] at z0 z1 z2 z3 z4 z5
              have f1 := hO.free
              have hsl : Calls Tryd.prog 41 #[.int .i64 ((2 : Nat) : Int)] wr.drew fun e w' => e = .returned (.int .i64 64) ∧ w' = wr.drew := slab_call 2 (by omega) wr.drew (show Tab wr.drew from hTb)
              simp only [szK] at hszb hbk
              have hb2 : 0 ≤ o.a2 ∧ o.a2 + 256 * ((f : Int) + 1) ≤ 10000000 := by have := hbk; simp only [V6.uK] at this; omega
              have gw : IntKind.i64.wrap (o.a2 + 64) = o.a2 + 64 := IntWalk.i64_in _ (by omega)
              have hset := hO.set 2 (.int .i64 (o.a2 + 64))
              have HS := hid (show Blk (wr.setCell ⟨B + 1 + 1, 2, none⟩ (.int .i64 (o.a2 + 64))) (B + 1 + 1) [.int .i64 o.a0, .int .i64 o.a1, .int .i64 (o.a2 + 64), .int .i64 o.a3, .int .i64 o.a4, .int .i64 o.a5] from hset)
              clear hset hO hbk hszb
              go_wp2_with fail
              refine wp_region_still_tail 7 (by kernel_rfl) (by kernel_rfl) ?_
              simp only [List.take_succ_cons, List.take_zero, List.drop_succ_cons, List.drop_zero]
              repeat (first | still_step | still_call hsl)
              refine wpStill_nil ?_
              change wpList _ _ _ _ _ wr.drew
              clear hsl
              have HTW := hid hTb
              clear hTb
              go_wp2_with fail
              clear z0 z1 z2 z3 z4 z5 f1
              refine calls_gen (fun W => Tab W ∧ Blk W (B + 1 + 1) [.int .i64 o.a0, .int .i64 o.a1, .int .i64 (o.a2 + 64), .int .i64 o.a3, .int .i64 o.a4, .int .i64 o.a5] ∧ Keeps (fun b => b < w5.heap.size ∧ b ≠ B + 1 + 1) w5 W) ⟨?_, ?_, ?_⟩ (fun W HW => ?_)
              · refine HTW.out.keep (K := fun b => b ≠ B + 1 + 1) ?_ (by omega)
                repeat (first | with_reducible exact Keeps.refl _ _ | with_reducible refine Keeps.drew ?_ | with_reducible refine Keeps.setCell ?_ ?_ _)
                all_goals simp
              · first | exact HS.out.drew | exact HS.out
              · repeat (first | with_reducible exact HKO.out | with_reducible refine Keeps.drew ?_ | with_reducible refine Keeps.setCell ?_ ?_ _)
                all_goals simp
              obtain ⟨hT3, hB3, hK3⟩ := HW
              refine (show Calls Tryd.prog 41 #[.int .i64 ((2 : Nat) : Int)] W (fun e w' => e = .returned (.int .i64 64) ∧ w' = W) from slab_call 2 (by omega) W hT3).mono ?_
              rintro e w3 ⟨rfl, rfl⟩
              have HB3 := hid hB3
              have HK3 := hid hK3
              clear hT3 hB3 hK3 HS
              go_wp2_with fail
              go_roundw
              case rel => exact ⟨f, n' - r', 64 - 1, 3, o.up 2 64, by first | rfl | go_num, by first | rfl | go_num, by first | rfl | go_num, by omega, HNN.out.1, HNN.out.2, by omega, by omega, by simpa using HF.out, hid ⟨HB3.out, HK3.out, HBD.out, HRQ.out⟩⟩
              case measure => obtain ⟨m1, m2, m3, m4⟩ := HN.out; have mg := HGT.out; by_cases hz : r' ≤ 0 <;> simp [intOf, hz] <;> omega
            · have z0 := (hO).cell 0
              have z1 := (hO).cell 1
              have z2 := (hO).cell 2
              have z3 := (hO).cell 3
              have z4 := (hO).cell 4
              have z5 := (hO).cell 5
              simp only [List.getElem?_cons_zero, List.getElem?_cons_succ] at z0 z1 z2 z3 z4 z5
              have f1 := hO.free
              have hsl : Calls Tryd.prog 41 #[.int .i64 ((3 : Nat) : Int)] wr.drew fun e w' => e = .returned (.int .i64 256) ∧ w' = wr.drew := slab_call 3 (by omega) wr.drew (show Tab wr.drew from hTb)
              simp only [szK] at hszb hbk
              have hb2 : 0 ≤ o.a3 ∧ o.a3 + 256 * ((f : Int) + 1) ≤ 10000000 := by have := hbk; simp only [V6.uK] at this; omega
              have gw : IntKind.i64.wrap (o.a3 + 256) = o.a3 + 256 := IntWalk.i64_in _ (by omega)
              have hset := hO.set 3 (.int .i64 (o.a3 + 256))
              have HS := hid (show Blk (wr.setCell ⟨B + 1 + 1, 3, none⟩ (.int .i64 (o.a3 + 256))) (B + 1 + 1) [.int .i64 o.a0, .int .i64 o.a1, .int .i64 o.a2, .int .i64 (o.a3 + 256), .int .i64 o.a4, .int .i64 o.a5] from hset)
              clear hset hO hbk hszb
              go_wp2_with fail
              refine wp_region_still_tail 7 (by kernel_rfl) (by kernel_rfl) ?_
              simp only [List.take_succ_cons, List.take_zero, List.drop_succ_cons, List.drop_zero]
              repeat (first | still_step | still_call hsl)
              refine wpStill_nil ?_
              change wpList _ _ _ _ _ wr.drew
              clear hsl
              have HTW := hid hTb
              clear hTb
              go_wp2_with fail
              clear z0 z1 z2 z3 z4 z5 f1
              refine calls_gen (fun W => Tab W ∧ Blk W (B + 1 + 1) [.int .i64 o.a0, .int .i64 o.a1, .int .i64 o.a2, .int .i64 (o.a3 + 256), .int .i64 o.a4, .int .i64 o.a5] ∧ Keeps (fun b => b < w5.heap.size ∧ b ≠ B + 1 + 1) w5 W) ⟨?_, ?_, ?_⟩ (fun W HW => ?_)
              · refine HTW.out.keep (K := fun b => b ≠ B + 1 + 1) ?_ (by omega)
                repeat (first | with_reducible exact Keeps.refl _ _ | with_reducible refine Keeps.drew ?_ | with_reducible refine Keeps.setCell ?_ ?_ _)
                all_goals simp
              · first | exact HS.out.drew | exact HS.out
              · repeat (first | with_reducible exact HKO.out | with_reducible refine Keeps.drew ?_ | with_reducible refine Keeps.setCell ?_ ?_ _)
                all_goals simp
              obtain ⟨hT3, hB3, hK3⟩ := HW
              refine (show Calls Tryd.prog 41 #[.int .i64 ((3 : Nat) : Int)] W (fun e w' => e = .returned (.int .i64 256) ∧ w' = W) from slab_call 3 (by omega) W hT3).mono ?_
              rintro e w3 ⟨rfl, rfl⟩
              have HB3 := hid hB3
              have HK3 := hid hK3
              clear hT3 hB3 hK3 HS
              go_wp2_with fail
              go_roundw
              case rel => exact ⟨f, n' - r', 256 - 1, 3, o.up 3 256, by first | rfl | go_num, by first | rfl | go_num, by first | rfl | go_num, by omega, HNN.out.1, HNN.out.2, by omega, by omega, by simpa using HF.out, hid ⟨HB3.out, HK3.out, HBD.out, HRQ.out⟩⟩
              case measure => obtain ⟨m1, m2, m3, m4⟩ := HN.out; have mg := HGT.out; by_cases hz : r' ≤ 0 <;> simp [intOf, hz] <;> omega
          · have HE := hid hgt
            have hfin : o = needL (n.toNat + 2) n R0 K0 zerosN := by
              have := HI.out.2.2.2
              cases f with
              | zero => omega
              | succ f => rw [needL, if_neg hgt] at this; exact this
            obtain ⟨hO, hKO, -, -⟩ := HI.out
            have hD1 := HB1.out.keep hKO ⟨HB1.out.lt, by omega⟩
            have hkf : Keeps (· < B) w wr := Hkw.out.trans (hKO.mono fun b hb => by have := HB1.out.lt; constructor <;> omega)
            have Hkf := hid hkf
            have Hfin := hid hfin
            clear hkf hfin
            have d0 := (hD1).cell 0
            have d1 := (hD1).cell 1
            have d2 := (hD1).cell 2
            have d3 := (hD1).cell 3
            have d4 := (hD1).cell 4
            have d5 := (hD1).cell 5
            simp only [List.getElem?_cons_zero, List.getElem?_cons_succ] at d0 d1 d2 d3 d4 d5
            have z0 := (hO).cell 0
            have z1 := (hO).cell 1
            have z2 := (hO).cell 2
            have z3 := (hO).cell 3
            have z4 := (hO).cell 4
            have z5 := (hO).cell 5
            simp only [List.getElem?_cons_zero, List.getElem?_cons_succ] at z0 z1 z2 z3 z4 z5
            have f1 := hD1.free
            clear HI hKO
            go_wp2_with fail
            refine bp_gen (fun W => Blk W (B + 1) [.int .i64 o.a0, .int .i64 o.a1, .int .i64 o.a2, .int .i64 o.a3, .int .i64 o.a4, .int .i64 o.a5] ∧ Keeps (· < B) w W) ⟨?_, ?_⟩ ?_
            · first | with_reducible exact Blk.set6 hD1 _ _ _ _ _ _ (by simp) | with_reducible exact (Blk.set6 hD1 _ _ _ _ _ _ (by simp)).drew
            · repeat (first | with_reducible exact Hkf.out | with_reducible refine Keeps.drew ?_ | with_reducible refine Keeps.setCell ?_ ?_ _)
              all_goals (simp)
            clear hD1 hO d0 d1 d2 d3 d4 d5 z0 z1 z2 z3 z4 z5 f1
            rintro W2 ⟨g1, g2⟩
            have d0 := (g1).cell 0
            have d1 := (g1).cell 1
            have d2 := (g1).cell 2
            have d3 := (g1).cell 3
            have d4 := (g1).cell 4
            have d5 := (g1).cell 5
            simp only [List.getElem?_cons_zero, List.getElem?_cons_succ] at d0 d1 d2 d3 d4 d5
            refine bodyPost_ret (v := .agg #[.int .i64 o.a0, .int .i64 o.a1, .int .i64 o.a2, .int .i64 o.a3, .int .i64 o.a4, .int .i64 o.a5]) ?_ rfl ?_
            · simp [results, Tryd.results14, go_sem, d0, d1, d2, d3, d4, d5]
            · refine hR'.out _ _ ⟨?_, g2⟩
              rw [← Hfin.out]; rfl
    · rw [if_neg (by omega), show ((k : Int)).toNat = k from by omega] at hR'
      have g0 : decide ((k : Int) < 0) = false := decide_eq_false (by omega)
      go_wp2_with fail
      have HB1 := hid hB1
      have Hkw := hid hkw
      clear hB1 hkw
      have hB2' := hB2
      clear hB2
      go_loopw [2, 8, 10] (fun vn vk vr wr => ∃ (f : Nat) (n' r' : Int) (k' : Nat) (o : V6), vn = .int .i64 n' ∧ vk = .int .i64 (k' : Int) ∧ vr = .int .i64 r' ∧ k' ≤ 3 ∧ -9223372036854775808 ≤ n' ∧ n' ≤ 3000 ∧ 0 ≤ r' ∧ r' ≤ 256 ∧
        n'.toNat + (if r' ≤ 0 then 1 else 0) < f ∧ Hid (Blk wr (B + 1 + 1) [.int .i64 o.a0, .int .i64 o.a1, .int .i64 o.a2, .int .i64 o.a3, .int .i64 o.a4, .int .i64 o.a5] ∧ Keeps (fun b => b < w1.heap.size ∧ b ≠ B + 1 + 1) w1 wr ∧ (∀ i, i ≤ 3 → 0 ≤ o.uK i ∧ o.uK i + 256 * f ≤ 10000000) ∧ needL f n' r' k' o = needL (n.toNat + 2) n 0 k zerosN)) (fun vn _ vr _ => 2 * (intOf vn).toNat + (if intOf vr ≤ 0 then 1 else 0))
      case atStart => exact ⟨n.toNat + 2, n, 0, k, zerosN, rfl, rfl, rfl, hk, n0, n1, by omega, by omega, by first | (simp; done) | (simp; omega), hid ⟨hB2', Keeps.refl _ _, fun i hi => by rw [zerosN_uK]; omega, rfl⟩⟩
      case round =>
        obtain ⟨f, n', r', k', o, rfl, rfl, rfl, hk', hn0, hn1, hr0, hr1, hf, HI⟩ := hrel
        by_cases hgt : n' > r'
        · obtain ⟨f, rfl⟩ : ∃ g, f = g + 1 := ⟨f - 1, by omega⟩
          obtain ⟨hO, hKO, hbd, hres⟩ := HI.out
          rw [show needL (f + 1) n' r' k' o = needL f (n' - r') (szK k' - 1) (min (k' + 1) 3) (o.up k' (szK k')) from by rw [needL, if_pos hgt]] at hres
          have HRQ := hid hres
          have hf2 : (n' - r').toNat + 0 < f := by split at hf <;> omega
          have HF := hid hf2
          have HGT := hid hgt
          have hbk := hbd k' hk'
          have hszb := szK_bd k'
          have HBD := hid (show ∀ i, i ≤ 3 → 0 ≤ (o.up k' (szK k')).uK i ∧ (o.up k' (szK k')).uK i + 256 * f ≤ 10000000 from by
            intro i hi
            have := hbd i hi
            rw [uK_up hk' hi]
            split <;> omega)
          have hme : 2 * (n' - r').toNat + 0 < 2 * n'.toNat + (if r' ≤ 0 then 1 else 0) := by split <;> omega
          have HME := hid hme
          have HKO := hid hKO
          have HN := hid (And.intro hn0 (And.intro hn1 (And.intro hr0 hr1)))
          have g1 : IntKind.i64.wrap (n' - r') = n' - r' := IntWalk.i64_in _ (by omega)
          have HNN := hid (show -9223372036854775808 ≤ n' - r' ∧ n' - r' ≤ 3000 from by omega)
          have hcases : k' = 0 ∨ k' = 1 ∨ k' = 2 ∨ k' = 3 := by omega
          have hTb : Tab wr := HTB.out.1.keep hKO ⟨by have := HTB.out.2; omega, by omega⟩
          clear hres hf2 hme hf hbd hKO HI hk' hn0 hn1 hr0 hr1
          rcases hcases with rfl | rfl | rfl | rfl
          · have z0 := (hO).cell 0
            have z1 := (hO).cell 1
            have z2 := (hO).cell 2
            have z3 := (hO).cell 3
            have z4 := (hO).cell 4
            have z5 := (hO).cell 5
            simp only [List.getElem?_cons_zero, List.getElem?_cons_succ] at z0 z1 z2 z3 z4 z5
            have f1 := hO.free
            have hsl : Calls Tryd.prog 41 #[.int .i64 ((0 : Nat) : Int)] wr.drew fun e w' => e = .returned (.int .i64 4) ∧ w' = wr.drew := slab_call 0 (by omega) wr.drew (show Tab wr.drew from hTb)
            simp only [szK] at hszb hbk
            have hb2 : 0 ≤ o.a0 ∧ o.a0 + 256 * ((f : Int) + 1) ≤ 10000000 := by have := hbk; simp only [V6.uK] at this; omega
            have gw : IntKind.i64.wrap (o.a0 + 4) = o.a0 + 4 := IntWalk.i64_in _ (by omega)
            have hset := hO.set 0 (.int .i64 (o.a0 + 4))
            have HS := hid (show Blk (wr.setCell ⟨B + 1 + 1, 0, none⟩ (.int .i64 (o.a0 + 4))) (B + 1 + 1) [.int .i64 (o.a0 + 4), .int .i64 o.a1, .int .i64 o.a2, .int .i64 o.a3, .int .i64 o.a4, .int .i64 o.a5] from hset)
            clear hset hO hbk hszb
            go_wp2_with fail
            refine wp_region_still_tail 7 (by kernel_rfl) (by kernel_rfl) ?_
            simp only [List.take_succ_cons, List.take_zero, List.drop_succ_cons, List.drop_zero]
            repeat (first | still_step | still_call hsl)
            refine wpStill_nil ?_
            change wpList _ _ _ _ _ wr.drew
            clear hsl
            have HTW := hid hTb
            clear hTb
            go_wp2_with fail
            clear z0 z1 z2 z3 z4 z5 f1
            refine calls_gen (fun W => Tab W ∧ Blk W (B + 1 + 1) [.int .i64 (o.a0 + 4), .int .i64 o.a1, .int .i64 o.a2, .int .i64 o.a3, .int .i64 o.a4, .int .i64 o.a5] ∧ Keeps (fun b => b < w1.heap.size ∧ b ≠ B + 1 + 1) w1 W) ⟨?_, ?_, ?_⟩ (fun W HW => ?_)
            · refine HTW.out.keep (K := fun b => b ≠ B + 1 + 1) ?_ (by omega)
              repeat (first | with_reducible exact Keeps.refl _ _ | with_reducible refine Keeps.drew ?_ | with_reducible refine Keeps.setCell ?_ ?_ _)
              all_goals simp
            · first | exact HS.out.drew | exact HS.out
            · repeat (first | with_reducible exact HKO.out | with_reducible refine Keeps.drew ?_ | with_reducible refine Keeps.setCell ?_ ?_ _)
              all_goals simp
            obtain ⟨hT3, hB3, hK3⟩ := HW
            refine (show Calls Tryd.prog 41 #[.int .i64 ((0 : Nat) : Int)] W (fun e w' => e = .returned (.int .i64 4) ∧ w' = W) from slab_call 0 (by omega) W hT3).mono ?_
            rintro e w3 ⟨rfl, rfl⟩
            have HB3 := hid hB3
            have HK3 := hid hK3
            clear hT3 hB3 hK3 HS
            go_wp2_with fail
            go_roundw
            case rel => exact ⟨f, n' - r', 4 - 1, 1, o.up 0 4, by first | rfl | go_num, by first | rfl | go_num, by first | rfl | go_num, by omega, HNN.out.1, HNN.out.2, by omega, by omega, by simpa using HF.out, hid ⟨HB3.out, HK3.out, HBD.out, HRQ.out⟩⟩
            case measure => obtain ⟨m1, m2, m3, m4⟩ := HN.out; have mg := HGT.out; by_cases hz : r' ≤ 0 <;> simp [intOf, hz] <;> omega
          · have z0 := (hO).cell 0
            have z1 := (hO).cell 1
            have z2 := (hO).cell 2
            have z3 := (hO).cell 3
            have z4 := (hO).cell 4
            have z5 := (hO).cell 5
            simp only [List.getElem?_cons_zero, List.getElem?_cons_succ] at z0 z1 z2 z3 z4 z5
            have f1 := hO.free
            have hsl : Calls Tryd.prog 41 #[.int .i64 ((1 : Nat) : Int)] wr.drew fun e w' => e = .returned (.int .i64 16) ∧ w' = wr.drew := slab_call 1 (by omega) wr.drew (show Tab wr.drew from hTb)
            simp only [szK] at hszb hbk
            have hb2 : 0 ≤ o.a1 ∧ o.a1 + 256 * ((f : Int) + 1) ≤ 10000000 := by have := hbk; simp only [V6.uK] at this; omega
            have gw : IntKind.i64.wrap (o.a1 + 16) = o.a1 + 16 := IntWalk.i64_in _ (by omega)
            have hset := hO.set 1 (.int .i64 (o.a1 + 16))
            have HS := hid (show Blk (wr.setCell ⟨B + 1 + 1, 1, none⟩ (.int .i64 (o.a1 + 16))) (B + 1 + 1) [.int .i64 o.a0, .int .i64 (o.a1 + 16), .int .i64 o.a2, .int .i64 o.a3, .int .i64 o.a4, .int .i64 o.a5] from hset)
            clear hset hO hbk hszb
            go_wp2_with fail
            refine wp_region_still_tail 7 (by kernel_rfl) (by kernel_rfl) ?_
            simp only [List.take_succ_cons, List.take_zero, List.drop_succ_cons, List.drop_zero]
            repeat (first | still_step | still_call hsl)
            refine wpStill_nil ?_
            change wpList _ _ _ _ _ wr.drew
            clear hsl
            have HTW := hid hTb
            clear hTb
            go_wp2_with fail
            clear z0 z1 z2 z3 z4 z5 f1
            refine calls_gen (fun W => Tab W ∧ Blk W (B + 1 + 1) [.int .i64 o.a0, .int .i64 (o.a1 + 16), .int .i64 o.a2, .int .i64 o.a3, .int .i64 o.a4, .int .i64 o.a5] ∧ Keeps (fun b => b < w1.heap.size ∧ b ≠ B + 1 + 1) w1 W) ⟨?_, ?_, ?_⟩ (fun W HW => ?_)
            · refine HTW.out.keep (K := fun b => b ≠ B + 1 + 1) ?_ (by omega)
              repeat (first | with_reducible exact Keeps.refl _ _ | with_reducible refine Keeps.drew ?_ | with_reducible refine Keeps.setCell ?_ ?_ _)
              all_goals simp
            · first | exact HS.out.drew | exact HS.out
            · repeat (first | with_reducible exact HKO.out | with_reducible refine Keeps.drew ?_ | with_reducible refine Keeps.setCell ?_ ?_ _)
              all_goals simp
            obtain ⟨hT3, hB3, hK3⟩ := HW
            refine (show Calls Tryd.prog 41 #[.int .i64 ((1 : Nat) : Int)] W (fun e w' => e = .returned (.int .i64 16) ∧ w' = W) from slab_call 1 (by omega) W hT3).mono ?_
            rintro e w3 ⟨rfl, rfl⟩
            have HB3 := hid hB3
            have HK3 := hid hK3
            clear hT3 hB3 hK3 HS
            go_wp2_with fail
            go_roundw
            case rel => exact ⟨f, n' - r', 16 - 1, 2, o.up 1 16, by first | rfl | go_num, by first | rfl | go_num, by first | rfl | go_num, by omega, HNN.out.1, HNN.out.2, by omega, by omega, by simpa using HF.out, hid ⟨HB3.out, HK3.out, HBD.out, HRQ.out⟩⟩
            case measure => obtain ⟨m1, m2, m3, m4⟩ := HN.out; have mg := HGT.out; by_cases hz : r' ≤ 0 <;> simp [intOf, hz] <;> omega
          · have z0 := (hO).cell 0
            have z1 := (hO).cell 1
            have z2 := (hO).cell 2
            have z3 := (hO).cell 3
            have z4 := (hO).cell 4
            have z5 := (hO).cell 5
            simp only [List.getElem?_cons_zero, List.getElem?_cons_succ] at z0 z1 z2 z3 z4 z5
            have f1 := hO.free
            have hsl : Calls Tryd.prog 41 #[.int .i64 ((2 : Nat) : Int)] wr.drew fun e w' => e = .returned (.int .i64 64) ∧ w' = wr.drew := slab_call 2 (by omega) wr.drew (show Tab wr.drew from hTb)
            simp only [szK] at hszb hbk
            have hb2 : 0 ≤ o.a2 ∧ o.a2 + 256 * ((f : Int) + 1) ≤ 10000000 := by have := hbk; simp only [V6.uK] at this; omega
            have gw : IntKind.i64.wrap (o.a2 + 64) = o.a2 + 64 := IntWalk.i64_in _ (by omega)
            have hset := hO.set 2 (.int .i64 (o.a2 + 64))
            have HS := hid (show Blk (wr.setCell ⟨B + 1 + 1, 2, none⟩ (.int .i64 (o.a2 + 64))) (B + 1 + 1) [.int .i64 o.a0, .int .i64 o.a1, .int .i64 (o.a2 + 64), .int .i64 o.a3, .int .i64 o.a4, .int .i64 o.a5] from hset)
            clear hset hO hbk hszb
            go_wp2_with fail
            refine wp_region_still_tail 7 (by kernel_rfl) (by kernel_rfl) ?_
            simp only [List.take_succ_cons, List.take_zero, List.drop_succ_cons, List.drop_zero]
            repeat (first | still_step | still_call hsl)
            refine wpStill_nil ?_
            change wpList _ _ _ _ _ wr.drew
            clear hsl
            have HTW := hid hTb
            clear hTb
            go_wp2_with fail
            clear z0 z1 z2 z3 z4 z5 f1
            refine calls_gen (fun W => Tab W ∧ Blk W (B + 1 + 1) [.int .i64 o.a0, .int .i64 o.a1, .int .i64 (o.a2 + 64), .int .i64 o.a3, .int .i64 o.a4, .int .i64 o.a5] ∧ Keeps (fun b => b < w1.heap.size ∧ b ≠ B + 1 + 1) w1 W) ⟨?_, ?_, ?_⟩ (fun W HW => ?_)
            · refine HTW.out.keep (K := fun b => b ≠ B + 1 + 1) ?_ (by omega)
              repeat (first | with_reducible exact Keeps.refl _ _ | with_reducible refine Keeps.drew ?_ | with_reducible refine Keeps.setCell ?_ ?_ _)
              all_goals simp
            · first | exact HS.out.drew | exact HS.out
            · repeat (first | with_reducible exact HKO.out | with_reducible refine Keeps.drew ?_ | with_reducible refine Keeps.setCell ?_ ?_ _)
              all_goals simp
            obtain ⟨hT3, hB3, hK3⟩ := HW
            refine (show Calls Tryd.prog 41 #[.int .i64 ((2 : Nat) : Int)] W (fun e w' => e = .returned (.int .i64 64) ∧ w' = W) from slab_call 2 (by omega) W hT3).mono ?_
            rintro e w3 ⟨rfl, rfl⟩
            have HB3 := hid hB3
            have HK3 := hid hK3
            clear hT3 hB3 hK3 HS
            go_wp2_with fail
            go_roundw
            case rel => exact ⟨f, n' - r', 64 - 1, 3, o.up 2 64, by first | rfl | go_num, by first | rfl | go_num, by first | rfl | go_num, by omega, HNN.out.1, HNN.out.2, by omega, by omega, by simpa using HF.out, hid ⟨HB3.out, HK3.out, HBD.out, HRQ.out⟩⟩
            case measure => obtain ⟨m1, m2, m3, m4⟩ := HN.out; have mg := HGT.out; by_cases hz : r' ≤ 0 <;> simp [intOf, hz] <;> omega
          · have z0 := (hO).cell 0
            have z1 := (hO).cell 1
            have z2 := (hO).cell 2
            have z3 := (hO).cell 3
            have z4 := (hO).cell 4
            have z5 := (hO).cell 5
            simp only [List.getElem?_cons_zero, List.getElem?_cons_succ] at z0 z1 z2 z3 z4 z5
            have f1 := hO.free
            have hsl : Calls Tryd.prog 41 #[.int .i64 ((3 : Nat) : Int)] wr.drew fun e w' => e = .returned (.int .i64 256) ∧ w' = wr.drew := slab_call 3 (by omega) wr.drew (show Tab wr.drew from hTb)
            simp only [szK] at hszb hbk
            have hb2 : 0 ≤ o.a3 ∧ o.a3 + 256 * ((f : Int) + 1) ≤ 10000000 := by have := hbk; simp only [V6.uK] at this; omega
            have gw : IntKind.i64.wrap (o.a3 + 256) = o.a3 + 256 := IntWalk.i64_in _ (by omega)
            have hset := hO.set 3 (.int .i64 (o.a3 + 256))
            have HS := hid (show Blk (wr.setCell ⟨B + 1 + 1, 3, none⟩ (.int .i64 (o.a3 + 256))) (B + 1 + 1) [.int .i64 o.a0, .int .i64 o.a1, .int .i64 o.a2, .int .i64 (o.a3 + 256), .int .i64 o.a4, .int .i64 o.a5] from hset)
            clear hset hO hbk hszb
            go_wp2_with fail
            refine wp_region_still_tail 7 (by kernel_rfl) (by kernel_rfl) ?_
            simp only [List.take_succ_cons, List.take_zero, List.drop_succ_cons, List.drop_zero]
            repeat (first | still_step | still_call hsl)
            refine wpStill_nil ?_
            change wpList _ _ _ _ _ wr.drew
            clear hsl
            have HTW := hid hTb
            clear hTb
            go_wp2_with fail
            clear z0 z1 z2 z3 z4 z5 f1
            refine calls_gen (fun W => Tab W ∧ Blk W (B + 1 + 1) [.int .i64 o.a0, .int .i64 o.a1, .int .i64 o.a2, .int .i64 (o.a3 + 256), .int .i64 o.a4, .int .i64 o.a5] ∧ Keeps (fun b => b < w1.heap.size ∧ b ≠ B + 1 + 1) w1 W) ⟨?_, ?_, ?_⟩ (fun W HW => ?_)
            · refine HTW.out.keep (K := fun b => b ≠ B + 1 + 1) ?_ (by omega)
              repeat (first | with_reducible exact Keeps.refl _ _ | with_reducible refine Keeps.drew ?_ | with_reducible refine Keeps.setCell ?_ ?_ _)
              all_goals simp
            · first | exact HS.out.drew | exact HS.out
            · repeat (first | with_reducible exact HKO.out | with_reducible refine Keeps.drew ?_ | with_reducible refine Keeps.setCell ?_ ?_ _)
              all_goals simp
            obtain ⟨hT3, hB3, hK3⟩ := HW
            refine (show Calls Tryd.prog 41 #[.int .i64 ((3 : Nat) : Int)] W (fun e w' => e = .returned (.int .i64 256) ∧ w' = W) from slab_call 3 (by omega) W hT3).mono ?_
            rintro e w3 ⟨rfl, rfl⟩
            have HB3 := hid hB3
            have HK3 := hid hK3
            clear hT3 hB3 hK3 HS
            go_wp2_with fail
            go_roundw
            case rel => exact ⟨f, n' - r', 256 - 1, 3, o.up 3 256, by first | rfl | go_num, by first | rfl | go_num, by first | rfl | go_num, by omega, HNN.out.1, HNN.out.2, by omega, by omega, by simpa using HF.out, hid ⟨HB3.out, HK3.out, HBD.out, HRQ.out⟩⟩
            case measure => obtain ⟨m1, m2, m3, m4⟩ := HN.out; have mg := HGT.out; by_cases hz : r' ≤ 0 <;> simp [intOf, hz] <;> omega
        · have HE := hid hgt
          have hfin : o = needL (n.toNat + 2) n 0 k zerosN := by
            have := HI.out.2.2.2
            cases f with
            | zero => omega
            | succ f => rw [needL, if_neg hgt] at this; exact this
          obtain ⟨hO, hKO, -, -⟩ := HI.out
          have hD1 := HB1.out.keep hKO ⟨HB1.out.lt, by omega⟩
          have hkf : Keeps (· < B) w wr := Hkw.out.trans (hKO.mono fun b hb => by have := HB1.out.lt; constructor <;> omega)
          have Hkf := hid hkf
          have Hfin := hid hfin
          clear hkf hfin
          have d0 := (hD1).cell 0
          have d1 := (hD1).cell 1
          have d2 := (hD1).cell 2
          have d3 := (hD1).cell 3
          have d4 := (hD1).cell 4
          have d5 := (hD1).cell 5
          simp only [List.getElem?_cons_zero, List.getElem?_cons_succ] at d0 d1 d2 d3 d4 d5
          have z0 := (hO).cell 0
          have z1 := (hO).cell 1
          have z2 := (hO).cell 2
          have z3 := (hO).cell 3
          have z4 := (hO).cell 4
          have z5 := (hO).cell 5
          simp only [List.getElem?_cons_zero, List.getElem?_cons_succ] at z0 z1 z2 z3 z4 z5
          have f1 := hD1.free
          clear HI hKO
          go_wp2_with fail
          refine bp_gen (fun W => Blk W (B + 1) [.int .i64 o.a0, .int .i64 o.a1, .int .i64 o.a2, .int .i64 o.a3, .int .i64 o.a4, .int .i64 o.a5] ∧ Keeps (· < B) w W) ⟨?_, ?_⟩ ?_
          · first | with_reducible exact Blk.set6 hD1 _ _ _ _ _ _ (by simp) | with_reducible exact (Blk.set6 hD1 _ _ _ _ _ _ (by simp)).drew
          · repeat (first | with_reducible exact Hkf.out | with_reducible refine Keeps.drew ?_ | with_reducible refine Keeps.setCell ?_ ?_ _)
            all_goals (simp)
          clear hD1 hO d0 d1 d2 d3 d4 d5 z0 z1 z2 z3 z4 z5 f1
          rintro W2 ⟨g1, g2⟩
          have d0 := (g1).cell 0
          have d1 := (g1).cell 1
          have d2 := (g1).cell 2
          have d3 := (g1).cell 3
          have d4 := (g1).cell 4
          have d5 := (g1).cell 5
          simp only [List.getElem?_cons_zero, List.getElem?_cons_succ] at d0 d1 d2 d3 d4 d5
          refine bodyPost_ret (v := .agg #[.int .i64 o.a0, .int .i64 o.a1, .int .i64 o.a2, .int .i64 o.a3, .int .i64 o.a4, .int .i64 o.a5]) ?_ rfl ?_
          · simp [results, Tryd.results14, go_sem, d0, d1, d2, d3, d4, d5]
          · refine hR'.out _ _ ⟨?_, g2⟩
            rw [← Hfin.out]; rfl
end Go.Proofs.YtbmgmjfpoepgpaaDoor
