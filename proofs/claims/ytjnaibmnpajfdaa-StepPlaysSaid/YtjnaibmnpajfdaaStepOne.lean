/- StepOne: the walk. -/
import Derived.Test.YtjnaibmnpajfdaaFix03
namespace Go.Proofs.Ytjnaibmnpajfdaa
open Go.RowKit

theorem take_flat : ∀ (l : List InsM) (k : Nat), (l.flatMap InsM.cells).take (k * 3) = (l.take k).flatMap InsM.cells
  | [], k => by simp
  | x :: l, 0 => by simp
  | x :: l, k + 1 => by
    have ih := take_flat l k
    have e : (k + 1) * 3 = k * 3 + 3 := by omega
    rw [e, List.take_succ_cons]
    show ((x.cells ++ l.flatMap InsM.cells).take (k * 3 + 3)) = _
    rw [show k * 3 + 3 = x.cells.length + k * 3 from by simp [InsM.cells]; omega, List.take_length_add_append, ih]
    rfl

theorem SlAt.cut {w : World} {K : Nat → Prop} {cap : Nat} {A : Option Addr} {l : List InsM} (h : SlAt w K 3 (.slice A l.length cap) l.length (l.flatMap InsM.cells)) :
    SlAt w K 3 (.slice A (min l.length 60) cap) (l.take 60).length ((l.take 60).flatMap InsM.cells) := by
  have := h.take (min l.length 60) (by omega)
  rw [take_flat] at this
  rw [List.length_take, Nat.min_comm 60]
  have e : l.take (min l.length 60) = l.take 60 := by
    rcases Nat.le_total l.length 60 with h | h
    · rw [Nat.min_eq_left h, List.take_of_length_le (Nat.le_refl _), List.take_of_length_le h]
    · rw [Nat.min_eq_right h]
  rw [e] at this
  exact this

set_option maxRecDepth 100000 in
set_option maxHeartbeats 1000000 in
theorem stepOne_call (n k : Nat) (hn : n ≤ 255) (hk : k ≤ 255) (A : Option Addr) (cap : Nat) (l : List InsM) (hwf : ∀ x ∈ l, x.wf) (w : World)
    (hsl : SlAt w (· < w.heap.size) 3 (.slice A l.length cap) l.length (l.flatMap InsM.cells)) :
    Calls Try.prog 3 #[.int .u8 n, .slice A l.length cap, .int .u8 k] w fun e w' =>
      e = .returned (.bool true) ∧ Keeps (· < w.heap.size) w w' := by
  have HWF := hid hwf
  have hcap : l.length ≤ cap ∧ cap ≤ maxLen := by
    obtain ⟨A', cap', h1, h2, h3, _⟩ := hsl
    injection h1 with _ _ e3
    subst e3
    exact ⟨h2, h3⟩
  have HC := hid hcap
  have HS := hid hsl
  clear hwf hsl hcap
  refine calls_hide fun R' hR' => ?_
  go_enter Try.func3, Try.ntmps3
  go_wp2_with fail
  refine (mem_newI w _ (by omega) (by omega)).mono ?_
  rintro e w1 ⟨rfl, hm1, hk1, hz1⟩
  have HM1 := hid hm1
  have HK1 := hid hk1
  have HZ1 := hid hz1
  clear hm1 hk1 hz1
  go_wp2_with fail
  refine (step_new w1 _).mono ?_
  rintro e w2 ⟨rfl, hr2, hk2, hz2⟩
  have hR2 : RM w2 (fun b => b < w.heap.size) w1.heap.size _ _ ⟨run0, _⟩ := RM.init HM1.out hr2 hk2 (fun b hb => by have := HZ1.out; omega)
  have HR2 := hid hR2
  have HK2 := hid (HK1.out.trans (hk2.mono fun b hb => by have := HZ1.out; omega))
  clear hr2 hk2 hz2 hR2
  go_wp2_with fail
  refine (fixed03 w2).mono ?_
  rintro e w3 ⟨rfl, hk3⟩
  have HR3 := hid (HR2.out.below hk3)
  have HK3 := hid (HK2.out.trans (hk3.mono HR2.out.lt))
  clear hk3
  have hacc : Acc ⟨run0, ⟨List.replicate (1 + (n : Int)).toNat 0, 0, 0⟩⟩ := ⟨by simp, by simp, by simp [run0]⟩
  have HA := hid hacc
  clear hacc
  generalize hm : w.heap.size + 1 = m at *
  have Hm := hid hm
  clear hm
  generalize hr : w1.heap.size = r at *
  have Hr := hid hr
  clear hr
  go_wp2_with fail
  go_loopw [34] (fun i wr => ∃ (j : Nat) (s : St), i = .int .i64 j ∧ j ≤ k ∧ RM wr (fun b => b < w.heap.size) r m w.heap.size s ∧ Acc s ∧ s.r.log.length ≤ j ∧ Keeps (fun b => b < w.heap.size) w wr)
    (fun i _ => k - (intOf i).toNat)
  case atStart => exact ⟨0, _, rfl, Nat.zero_le _, HR3.out, HA.out, by simp [run0], HK3.out⟩
  case round =>
    obtain ⟨j, s, rfl, hj, hR, hacc, hlen, hkp⟩ := hrel
    have HR := hid hR
    have HKp := hid hkp
    by_cases hlt : j < k
    · obtain ⟨g, hrun, _⟩ := hR.run
      have HRun := hid hrun
      have l0 := hacc.l0
      have s0 := hacc.s0
      have sm : s.m.loads + s.m.stores ≤ 255 := by have := hacc.sum; omega
      have HAcc := hid hacc
      clear hR hkp hacc hrun
      go_wp2_with fail
      refine (mem_loads HR.out.mem).mono ?_
      rintro e w4 ⟨rfl, rfl⟩
      go_wp2_with fail
      refine (mem_stores HR.out.mem).mono ?_
      rintro e w4 ⟨rfl, rfl⟩
      go_wp2_with fail
      refine (run_over HRun.out).mono ?_
      rintro e w4 ⟨rfl, rfl⟩
      go_wp2_with fail
      refine (cut_any A l.length cap HC.out.1 HC.out.2 _).mono ?_
      rintro e w4 ⟨rfl, rfl⟩
      go_wp2_with fail
      refine (program_any _ _ _ _ rfl _).mono ?_
      rintro e w4 ⟨rfl, rfl⟩
      have hR4 := HR.out.more (.cells #[.slice A (min l.length 60) cap] 22)
      have hB4 := Blk.new wr [.slice A (min l.length 60) cap] 22
      have hk4 : Keeps (fun b => b < w.heap.size) w (wr.alloc (.cells #[.slice A (min l.length 60) cap] 22)) := HKp.out.alloc (fun b hb => by have := HKp.out.size; omega) _
      have hS4 := (HS.out.keep hk4 (fun b hb => hb)).cut
      have HR4 := hid hR4
      have HB4 := hid hB4
      have HK4 := hid hk4
      have HS4 := hid hS4
      clear hR4 hB4 hk4 hS4
      go_wp2_with fail
      refine (step_prog HR4.out (by omega) _ _ (l.take 60) (fun x hx => HWF.out x (List.mem_of_mem_take hx)) HB4.out (Or.inr rfl) (HS4.out.mono fun b hb => Or.inl hb)).mono ?_
      rintro e w5 ⟨rfl, hR5, hk5⟩
      obtain ⟨ha1, ha2, ha3, ha4⟩ := step_acc HAcc.out (by omega : s.r.log.length < 1099511627776) (progT (l.take 60) 0 0)
      generalize s.stepP (progT (l.take 60) 0 0) = s' at *
      obtain ⟨g5, hrun5, _⟩ := hR5.run
      have HRun5 := hid hrun5
      have l5 := ha1.l0
      have s5 := ha1.s0
      have e0 := HAcc.out.sum
      have e5 := ha1.sum
      have sm5 : s'.m.loads + s'.m.stores ≤ 255 := by omega
      have b1 : s.m.loads + s.m.stores ≤ s'.m.loads + s'.m.stores := by omega
      have b2 : s'.m.loads + s'.m.stores ≤ s.m.loads + s.m.stores + 1 := by omega
      have b3 : ((s'.m.loads + s'.m.stores) != (s'.r.log.length : Int)) = false := by simp [e5]
      have HR5 := hid (hR5.mono (fun b hb => Or.inl hb) : RM w5 (fun b => b < w.heap.size) _ _ _ _)
      have HK5 := hid (HK4.out.trans (hk5.mono fun b hb => Or.inl hb))
      have HA5 := hid ha1
      have hl5 : s'.r.log.length ≤ j + 1 := by omega
      have HO := hid ha4
      clear hrun5 hR5 hk5 ha1 ha4 e0 e5
      go_wp2_with fail
      refine (mem_loads HR5.out.mem).mono ?_
      rintro e w4 ⟨rfl, rfl⟩
      go_wp2_with fail
      refine (mem_stores HR5.out.mem).mono ?_
      rintro e w4 ⟨rfl, rfl⟩
      cases ho : s.r.over
      · have HOv := hid ho
        clear ho
        go_wp2_with fail
        refine (run_count HRun5.out).mono ?_
        rintro e w4 ⟨rfl, rfl⟩
        go_wp2_with fail
        go_roundw
        case rel => exact ⟨j + 1, s', by go_num, by omega, HR5.out, HA5.out, hl5, HK5.out⟩
        case measure => simp [intOf]; omega
      · have b4 : ((s'.m.loads + s'.m.stores) != (s.m.loads + s.m.stores)) = false := by rw [HO.out ho]; simp
        have HOv := hid ho
        clear ho
        go_wp2_with fail
        refine (run_count HRun5.out).mono ?_
        rintro e w4 ⟨rfl, rfl⟩
        go_wp2_with fail
        go_roundw
        case rel => exact ⟨j + 1, s', by go_num, by omega, HR5.out, HA5.out, hl5, HK5.out⟩
        case measure => simp [intOf]; omega
    · clear hR hkp hacc
      go_wp2_with fail
      exact hR'.out _ _ ⟨rfl, HKp.out⟩
end Go.Proofs.Ytjnaibmnpajfdaa
