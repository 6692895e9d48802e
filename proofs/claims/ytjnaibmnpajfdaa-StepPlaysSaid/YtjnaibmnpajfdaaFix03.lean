/- Layer 3's statements: the example 'fixed'. -/
import Derived.Test.YtjnaibmnpajfdaaInsD
import Derived.Test.YtjnaibmnpajfdaaInit
namespace Go.Proofs.Ytjnaibmnpajfdaa
open Go.RowKit

def ins3 : List InsM := [⟨1, 1, 5⟩, ⟨0, 1, 0⟩, ⟨3, 2, 0⟩]
def fx0 : St := ⟨run0, ⟨[0, 0, 0], 0, 0⟩⟩
def fx1 : St := fx0.stepP (progT ins3 0 0)
def fx2 : St := (⟨fx1.r, fx1.m.store 1 9⟩ : St).stepP (progT ins3 0 0)
def fx3 : St := fx2.stepP (progT ins3 0 0)

set_option maxRecDepth 100000 in
set_option maxHeartbeats 1000000 in
theorem fixed03 (w : World) : Calls Try.prog 15 #[] w fun e w' => e = .returned (.bool true) ∧ Keeps (· < w.heap.size) w w' := by
  refine calls_hide fun R' hR' => ?_
  go_enter Try.func15, Try.ntmps15
  go_wp2_with fail
  have hs0 := SlAt.new w (ins3.flatMap InsM.cells) 38 3 3 rfl (by unfold maxLen; decide) (fun b => b < w.heap.size ∨ b = w.heap.size) (Or.inr rfl)
  have hk0 : Keeps (· < w.heap.size) w (w.alloc (.cells (ins3.flatMap InsM.cells).toArray 38)) := (Keeps.refl _ w).alloc (fun b hb => hb) _
  have HS0 := hid hs0
  have HK0 := hid hk0
  clear hs0 hk0
  refine (mem_new _ 3 (by decide) (by decide)).mono ?_
  rintro e w1 ⟨rfl, hm1, hk1, hz1⟩
  simp only [World.size_alloc] at hm1 hk1 hz1
  have HM1 := hid hm1
  have HK1 := hid hk1
  have HZ1 := hid hz1
  clear hm1 hk1 hz1
  go_wp2_with fail
  refine (step_new w1 _).mono ?_
  rintro e w2 ⟨rfl, hr2, hk2, hz2⟩
  have hR2 : RM w2 (fun b => b < w.heap.size ∨ b = w.heap.size) w1.heap.size _ _ fx0 := RM.init HM1.out hr2 hk2 (fun b hb => by have := HZ1.out; omega)
  have hs2 : SlAt w2 (fun b => b < w.heap.size ∨ b = w.heap.size) 3 (.slice (some ⟨w.heap.size, 0, none⟩) 3 3) 3 (ins3.flatMap InsM.cells) :=
    (HS0.out.keep HK1.out (fun b hb => by omega)).keep hk2 (fun b hb => by have := HZ1.out; omega)
  have hk02 : Keeps (· < w.heap.size) w w2 := HK0.out.trans ((HK1.out.mono (fun b hb => by omega)).trans (hk2.mono fun b hb => by have := HZ1.out; omega))
  have HR2 := hid hR2
  have HS2 := hid hs2
  have HK2 := hid hk02
  clear hr2 hk2 hz2 hR2 hs2 hk02
  go_wp2_with fail
  refine (program_any _ _ _ _ rfl w2).mono ?_
  rintro e w3 ⟨rfl, rfl⟩
  have HR3 := hid (HR2.out.more (.cells #[.slice (some ⟨w.heap.size, 0, none⟩) 3 3] 22))
  have HB3 := hid (Blk.new w2 [.slice (some ⟨w.heap.size, 0, none⟩) 3 3] 22)
  have HS3 := hid (HS2.out.keep ((Keeps.refl (· < w2.heap.size) w2).alloc (fun b hb => hb) (.cells #[.slice (some ⟨w.heap.size, 0, none⟩) 3 3] 22)) (HR2.out.lt))
  have HK3 := hid (HK2.out.alloc (fun b hb => by have := HK2.out.size; omega) (.cells #[.slice (some ⟨w.heap.size, 0, none⟩) 3 3] 22))
  generalize hw3 : w2.alloc (.cells #[.slice (some ⟨w.heap.size, 0, none⟩) 3 3] 22) = w3 at *
  have hwf : ∀ x ∈ ins3, x.wf := by
    intro x hx
    simp only [ins3, List.mem_cons, List.not_mem_nil, or_false] at hx
    rcases hx with rfl | rfl | rfl <;> simp [InsM.wf, I64, U32]
  have HWF := hid hwf
  have HW3 := hid hw3
  clear hwf hw3
  generalize hlb : w2.heap.size = lb at *
  have HLB := hid hlb
  clear hlb
  go_wp2_with fail
  refine (step_prog HR3.out (by decide) lb _ ins3 HWF.out HB3.out (Or.inr rfl) (HS3.out.mono fun b hb => Or.inl hb)).mono ?_
  rintro e w4 ⟨rfl, hR4, hk4⟩
  have hb4 := HB3.out.keep hk4 (Or.inr rfl)
  have hs4 := HS3.out.keep hk4 (fun b hb => Or.inl hb)
  have hkk4 := HK3.out.trans (hk4.mono fun b hb => Or.inl (Or.inl hb))
  rw [show (fx0.stepP (progT ins3 0 0)).r.over = false from by decide]
  have HR4 : Hid (RM w4 _ _ _ _ fx1) := hR4
  have HB4 := hid hb4
  have HS4 := hid hs4
  have HK4 := hid hkk4
  clear hR4 hk4 hb4 hs4 hkk4
  go_wp2_with fail
  refine (mem_store HR4.out.mem 1 9 (by unfold U32; decide)).mono ?_
  rintro e w5 ⟨rfl, hm5, hk5⟩
  have hR5 := HR4.out.store hm5 hk5
  have hk5' : Keeps (fun b => (b < w.heap.size ∨ b = w.heap.size) ∨ b = lb) w4 w5 := hk5.mono fun b hb => ⟨fun e => HR4.out.km (e ▸ hb), fun e => HR4.out.kc (e ▸ hb)⟩
  have hb5 := HB4.out.keep hk5' (Or.inr rfl)
  have hs5 := HS4.out.keep hk5' (fun b hb => Or.inl hb)
  have hkk5 := HK4.out.trans (hk5'.mono fun b hb => Or.inl (Or.inl hb))
  have HR5 := hid hR5
  have HB5 := hid hb5
  have HS5 := hid hs5
  have HK5 := hid hkk5
  clear hm5 hk5 hR5 hk5' hb5 hs5 hkk5
  go_wp2_with fail
  refine (step_prog HR5.out (by decide) lb _ ins3 HWF.out HB5.out (Or.inr rfl) (HS5.out.mono fun b hb => Or.inl hb)).mono ?_
  rintro e w6 ⟨rfl, hR6, hk6⟩
  have hb6 := HB5.out.keep hk6 (Or.inr rfl)
  have hs6 := HS5.out.keep hk6 (fun b hb => Or.inl hb)
  have hkk6 := HK5.out.trans (hk6.mono fun b hb => Or.inl (Or.inl hb))
  rw [show ((⟨fx1.r, fx1.m.store 1 9⟩ : St).stepP (progT ins3 0 0)).r.over = false from by decide]
  have HR6 : Hid (RM w6 _ _ _ _ fx2) := hR6
  have HB6 := hid hb6
  have HS6 := hid hs6
  have HK6 := hid hkk6
  clear hR6 hk6 hb6 hs6 hkk6
  go_wp2_with fail
  refine (step_prog HR6.out (by decide) lb _ ins3 HWF.out HB6.out (Or.inr rfl) (HS6.out.mono fun b hb => Or.inl hb)).mono ?_
  rintro e w7 ⟨rfl, hR7, hk7⟩
  have hkk7 := HK6.out.trans (hk7.mono fun b hb => Or.inl (Or.inl hb))
  rw [show (fx2.stepP (progT ins3 0 0)).r.over = true from by decide]
  have HR7 : Hid (RM w7 _ _ _ _ fx3) := hR7
  have HK7 := hid hkk7
  clear hR7 hk7 hkk7
  go_wp2_with fail
  refine (mem_load HR7.out.mem 2).mono ?_
  rintro e w8 ⟨rfl, hm8, hk8⟩
  rw [show (if fx3.m.inb 2 then fx3.m.at 2 else 0) = 9 from by decide]
  have hR8 := HR7.out.store hm8 (hk8.mono fun b hb => hb.1)
  obtain ⟨g, hrun, _⟩ := hR8.run
  have HRun := hid hrun
  have HK8 := hid (HK7.out.trans (keeps_one hk8 (fun e => HR7.out.km (Or.inl (Or.inl e)))))
  clear hm8 hk8 hrun hR8
  go_wp2_with fail
  refine (run_over HRun.out).mono ?_
  rintro e w9 ⟨rfl, rfl⟩
  rw [show fx3.r.over = true from by decide]
  go_wp2_with fail
  refine (run_count HRun.out).mono ?_
  rintro e w10 ⟨rfl, rfl⟩
  rw [show (fx3.r.log.length : Int) = 3 from by decide]
  go_wp2_with fail
  exact hR'.out _ _ ⟨rfl, HK8.out⟩
end Go.Proofs.Ytjnaibmnpajfdaa
