/- StepOutside: the walk. -/
import Derived.Test.YtjnaibmnpajfdaaFix03
import Derived.Test.YtjnaibmnpajfdaaPlainB
namespace Go.Proofs.Ytjnaibmnpajfdaa
open Go.RowKit

def insO (st : Bool) (a v : Int) : InsM := if st then ⟨1, a, v⟩ else ⟨0, a, 0⟩
def outT (st : Bool) (a v : Int) : Tree Unit := progT [⟨1, 0, 7⟩, insO st a v, ⟨1, 0, 8⟩] 0 0
theorem outT_norm (st : Bool) (a v : Int) : (outT st a v).norm = .store 0 7 (progT [insO st a v, ⟨1, 0, 8⟩] 1 0) := by
  simp [outT, progT, Tree.norm]
theorem outT_rest (st : Bool) (a v : Int) : ∃ k, (progT [insO st a v, ⟨1, 0, 8⟩] 1 0).norm = (if st then .store a v k else .load a fun _ => k) := by
  cases st <;> simp [insO, progT, Tree.norm, addrM]
  exact ⟨_, rfl⟩

theorem outside_plain (st : Bool) (a v : Int) (cells : List Int) (hc : 0 < cells.length) (ha : a < 0 ∨ cells.length ≤ a) :
    ∃ s1 s2 : St, (⟨run0, ⟨cells, 0, 0⟩⟩ : St).stepP (outT st a v) = s1 ∧ s1.stepP (outT st a v) = s2 ∧ s2.stepP (outT st a v) = s2 ∧
      s1.r.over = false ∧ s2.r.over = true ∧ s2.r.err = 2 ∧ s2.m.inb 0 = true ∧ s2.m.at 0 = 7 ∧ s2.m.stores = 1 ∧ s1.r.log.length = 1 ∧ s2.r.log.length = 1 := by
  have w0 := way_start (outT st a v) ⟨cells, 0, 0⟩ false false false 0
  rw [outT_norm] at w0
  have h0 : (⟨cells, 0, 0⟩ : MemS).inb 0 = true := by simp [MemS.inb]; omega
  obtain ⟨k, hk⟩ := outT_rest st a v
  have hn : (progT [insO st a v, ⟨1, 0, 8⟩] 1 0).norm.isRet = false := by rw [hk]; cases st <;> rfl
  have e1 := (way_store w0 h0).1
  have w1 := way_next_store w0 h0 hn
  rw [e1] at w1
  rw [hn] at e1 w1
  have ho : (((⟨cells, 0, 0⟩ : MemS).store 0 7)).inb a = false := by
    unfold MemS.store; rw [if_pos h0]
    simp [MemS.inb]
    omega
  have e2 : ((⟨⟨run0.log ++ [0], run0.log.length + 1, false, false, !false, false, 0⟩, (⟨cells, 0, 0⟩ : MemS).store 0 7⟩ : St).step (outT st a v)).2 =
      ⟨⟨[0], 1, false, false, true, true, 2⟩, (⟨cells, 0, 0⟩ : MemS).store 0 7⟩ := by
    rw [hk] at w1
    cases st
    · exact way_load_out w1 ho
    · exact way_store_out w1 ho
  have hst : (⟨cells, 0, 0⟩ : MemS).store 0 7 = ⟨cells.set 0 7, 0, 1⟩ := by
    unfold MemS.store; rw [if_pos h0]; simp [wrap64]
  refine ⟨_, _, (stepP_run rfl _).trans e1, (stepP_run rfl _).trans e2, stepP_over rfl _, rfl, rfl, rfl, ?_, ?_, ?_, rfl, rfl⟩
  · rw [hst]; simp [MemS.inb]; omega
  · rw [hst]; simp [MemS.at, hc]
  · rw [hst]

theorem RM.lit {w : World} {K : Nat → Prop} {r m c : Nat} {s : St} (h : RM w K r m c s) (o : Obj) (xs : List Value) (T : TypeId) (n : Nat) (hx : xs.length = n * 3) (hn : n ≤ maxLen) :
    RM ((w.alloc o).alloc (.cells xs.toArray T)) (fun b => K b ∨ b = w.heap.size + 1) r m c s ∧
    SlAt ((w.alloc o).alloc (.cells xs.toArray T)) (fun b => K b ∨ b = w.heap.size + 1) 3 (.slice (some ⟨w.heap.size + 1, 0, none⟩) n n) n xs ∧
    Keeps K w ((w.alloc o).alloc (.cells xs.toArray T)) := by
  have hz : (w.alloc o).heap.size = w.heap.size + 1 := by simp
  refine ⟨?_, ?_, ((Keeps.refl K w).alloc h.lt _).alloc (fun b hb => by have := h.lt b hb; omega) _⟩
  · have := (h.alloc o).more (.cells xs.toArray T)
    rw [hz] at this; exact this
  · have := SlAt.new (w.alloc o) xs T 3 n hx hn (fun b => K b ∨ b = w.heap.size + 1) (Or.inr hz)
    rw [hz] at this; exact this

set_option maxRecDepth 100000 in
set_option maxHeartbeats 2000000 in
theorem stepOutside_call (n : Nat) (a v : Int) (st : Bool) (hn : n ≤ 255) (ha : I64 a) (hv : U32 v) (w : World) :
    Calls Try.prog 4 #[.int .u8 n, .int .i64 a, .int .u32 v, .bool st] w fun e w' =>
      e = .returned (.bool true) ∧ Keeps (· < w.heap.size) w w' := by
  refine calls_hide fun R' hR' => ?_
  go_enter Try.func4, Try.ntmps4
  go_wp2_with fail
  refine (mem_newI w _ (by omega) (by omega)).mono ?_
  rintro e w1 ⟨rfl, hm1, hk1, hz1⟩
  have HM1 := hid hm1
  have HK1 := hid hk1
  have HZ1 := hid hz1
  clear hm1 hk1 hz1
  go_wp2_with fail
  refine (step_new w1 _).mono ?_
  rintro e w2 ⟨rfl, hr2, hk2, hz2⟩
  have hR2 : RM w2 (fun b => b < w.heap.size) w1.heap.size _ _ ⟨run0, _⟩ := RM.init HM1.out hr2 hk2 (fun b hb => by have := HZ1.out; omega)
  have HR2 := hid hR2
  have HK2 := hid (HK1.out.trans (hk2.mono fun b hb => by have := HZ1.out; omega))
  clear hr2 hk2 hz2 hR2
  go_wp2_with fail
  refine (fixed03 w2).mono ?_
  rintro e w3 ⟨rfl, hk3⟩
  have HR3 := hid (HR2.out.below hk3)
  have HK3 := hid (HK2.out.trans (hk3.mono HR2.out.lt))
  clear hk3
  generalize hm : w.heap.size + 1 = m at *
  have Hm := hid hm
  clear hm
  generalize hr : w1.heap.size = r at *
  have Hr := hid hr
  clear hr
  by_cases hin : 0 ≤ a ∧ a < 1 + (n : Int)
  · obtain ⟨i1, i2⟩ := hin
    go_wp2_with fail
    exact hR'.out _ _ ⟨rfl, HK3.out⟩
  · obtain ⟨s1, s2, g1, g2, g3, o1, o2, er, ib, at0, sts, len1, len2⟩ := outside_plain st a v (List.replicate (1 + (n : Int)).toNat 0) (by simp; omega) (by simp; omega)
    have G1 := hid g1
    have G2 := hid g2
    have G3 := hid g3
    have O1 := hid o1
    have O2 := hid o2
    have ER := hid er
    have IB := hid ib
    have AT := hid at0
    have ST := hid sts
    have L1 := hid len1
    have L2 := hid len2
    clear g1 g2 g3 o1 o2 er ib at0 sts len1 len2
    have HV := hid hv
    have HA := hid ha
    have hsplit : a < 0 ∨ 1 + (n : Int) ≤ a := by omega
    clear hin hv ha
    have hwf : ∀ x ∈ [(⟨1, 0, 7⟩ : InsM), insO st a v, ⟨1, 0, 8⟩], x.wf := by
      intro x hx
      simp only [List.mem_cons, List.not_mem_nil, or_false] at hx
      have h1 := HV.out
      have h2 := HA.out
      unfold U32 at h1
      unfold I64 at h2
      rcases hx with rfl | rfl | rfl
      · simp [InsM.wf, I64, U32]
      · cases st <;> simp [insO, InsM.wf, I64, U32] <;> omega
      · simp [InsM.wf, I64, U32]
    have HWF := hid hwf
    clear hwf
    cases st
    · have hlit := HR3.out.lit (.cells #[.int .i64 0, .int .i64 a, .int .u32 0] 38) [.int .i64 1, .int .i64 0, .int .u32 7, .int .i64 0, .int .i64 a, .int .u32 0, .int .i64 1, .int .i64 0, .int .u32 8] 38 3 rfl (by unfold maxLen; decide)
      have hsl : SlAt _ _ 3 _ 3 ([(⟨1, 0, 7⟩ : InsM), insO false a v, ⟨1, 0, 8⟩].flatMap InsM.cells) := hlit.2.1
      have HL1 := hid hlit.1
      have HL2 := hid hsl
      have HL3 := hid hlit.2.2
      clear hlit hsl
      rcases hsplit with hs | hs
      all_goals
        go_wp2_with fail
        generalize hwb : (w3.alloc (.cells #[.int .i64 0, .int .i64 a, .int .u32 0] 38)).alloc (.cells #[.int .i64 1, .int .i64 0, .int .u32 7, .int .i64 0, .int .i64 a, .int .u32 0, .int .i64 1, .int .i64 0, .int .u32 8] 38) = wb at *
        have HWB := hid hwb
        clear hwb
        refine (program_any _ _ _ _ rfl _).mono ?_
        rintro e w4 ⟨rfl, rfl⟩
        go_wp2_with fail
        refine (step_fresh HL1.out (show 0 < 1099511627776 by decide) _ _ HWF.out HL2.out).mono ?_
        rintro e w5 ⟨rfl, hR5, hk5⟩
        rw [← outT] at hR5 ⊢
        rw [G1.out] at hR5 ⊢
        rw [O1.out]
        have hR5' := hR5
        have HR5 := hid hR5'
        have HS5 := hid (HL2.out.keep hk5 fun b hb => hb)
        have HK5 := hid (HK3.out.trans (HL3.out.trans (hk5.mono fun b hb => Or.inl hb)))
        clear hR5 hk5 hR5'
        go_wp2_with fail
        refine (program_any _ _ _ _ rfl _).mono ?_
        rintro e w6 ⟨rfl, rfl⟩
        go_wp2_with fail
        refine (step_fresh HR5.out (by rw [L1.out]; decide) _ _ HWF.out HS5.out).mono ?_
        rintro e w7 ⟨rfl, hR7, hk7⟩
        rw [← outT] at hR7 ⊢
        rw [G2.out] at hR7 ⊢
        rw [O2.out]
        have hR7' := hR7
        have HR7 := hid hR7'
        have HS7 := hid (HS5.out.keep hk7 fun b hb => hb)
        have HK7 := hid (HK5.out.trans (hk7.mono fun b hb => Or.inl hb))
        clear hR7 hk7 hR7'
        go_wp2_with fail
        refine (mem_load HR7.out.mem 0).mono ?_
        rintro e w8 ⟨rfl, hm8, hk8⟩
        rw [IB.out, if_pos rfl, if_pos rfl, AT.out]
        have hR8 := HR7.out.store hm8 (hk8.mono fun b hb => hb.1)
        have hst8 : (s2.m.load 0).stores = 1 := by unfold MemS.load; rw [IB.out]; exact ST.out
        obtain ⟨g, hrun, _⟩ := hR8.run
        have hk8' : Keeps (fun b => b < w.heap.size ∨ b = w3.heap.size + 1) w7 w8 := keeps_one hk8 HR7.out.km
        have HRun := hid hrun
        have HR8 := hid hR8
        have HST := hid hst8
        have HS8 := hid (HS7.out.keep hk8' fun b hb => hb)
        have HK8 := hid (HK7.out.trans (hk8'.mono fun b hb => Or.inl hb))
        clear hm8 hk8 hrun hR8 hst8 hk8'
        go_wp2_with fail
        refine (run_err HRun.out).mono ?_
        rintro e w9 ⟨rfl, rfl⟩
        rw [ER.out]
        go_wp2_with fail
        refine (mem_stores HR8.out.mem).mono ?_
        rintro e w9 ⟨rfl, rfl⟩
        rw [HST.out]
        go_wp2_with fail
        refine (program_any _ _ _ _ rfl _).mono ?_
        rintro e w9 ⟨rfl, rfl⟩
        go_wp2_with fail
        refine (step_fresh HR8.out (by rw [L2.out]; decide) _ _ HWF.out HS8.out).mono ?_
        rintro e w10 ⟨rfl, hR10, hk10⟩
        rw [stepP_over (s := ⟨s2.r, s2.m.load 0⟩) O2.out] at hR10 ⊢
        rw [O2.out]
        have HR10 := hid hR10
        have HK10 := hid (HK8.out.trans (hk10.mono fun b hb => Or.inl hb))
        clear hR10 hk10
        go_wp2_with fail
        refine (mem_stores HR10.out.mem).mono ?_
        rintro e w11 ⟨rfl, rfl⟩
        rw [HST.out]
        go_wp2_with fail
        exact hR'.out _ _ ⟨rfl, HK10.out⟩
    · have hlit := HR3.out.lit (.cells #[.int .i64 1, .int .i64 a, .int .u32 v] 38) [.int .i64 1, .int .i64 0, .int .u32 7, .int .i64 1, .int .i64 a, .int .u32 v, .int .i64 1, .int .i64 0, .int .u32 8] 38 3 rfl (by unfold maxLen; decide)
      have hsl : SlAt _ _ 3 _ 3 ([(⟨1, 0, 7⟩ : InsM), insO true a v, ⟨1, 0, 8⟩].flatMap InsM.cells) := hlit.2.1
      have HL1 := hid hlit.1
      have HL2 := hid hsl
      have HL3 := hid hlit.2.2
      clear hlit hsl
      rcases hsplit with hs | hs
      all_goals
        go_wp2_with fail
        generalize hwb : (w3.alloc (.cells #[.int .i64 1, .int .i64 a, .int .u32 v] 38)).alloc (.cells #[.int .i64 1, .int .i64 0, .int .u32 7, .int .i64 1, .int .i64 a, .int .u32 v, .int .i64 1, .int .i64 0, .int .u32 8] 38) = wb at *
        have HWB := hid hwb
        clear hwb
        refine (program_any _ _ _ _ rfl _).mono ?_
        rintro e w4 ⟨rfl, rfl⟩
        go_wp2_with fail
        refine (step_fresh HL1.out (show 0 < 1099511627776 by decide) _ _ HWF.out HL2.out).mono ?_
        rintro e w5 ⟨rfl, hR5, hk5⟩
        rw [← outT] at hR5 ⊢
        rw [G1.out] at hR5 ⊢
        rw [O1.out]
        have hR5' := hR5
        have HR5 := hid hR5'
        have HS5 := hid (HL2.out.keep hk5 fun b hb => hb)
        have HK5 := hid (HK3.out.trans (HL3.out.trans (hk5.mono fun b hb => Or.inl hb)))
        clear hR5 hk5 hR5'
        go_wp2_with fail
        refine (program_any _ _ _ _ rfl _).mono ?_
        rintro e w6 ⟨rfl, rfl⟩
        go_wp2_with fail
        refine (step_fresh HR5.out (by rw [L1.out]; decide) _ _ HWF.out HS5.out).mono ?_
        rintro e w7 ⟨rfl, hR7, hk7⟩
        rw [← outT] at hR7 ⊢
        rw [G2.out] at hR7 ⊢
        rw [O2.out]
        have hR7' := hR7
        have HR7 := hid hR7'
        have HS7 := hid (HS5.out.keep hk7 fun b hb => hb)
        have HK7 := hid (HK5.out.trans (hk7.mono fun b hb => Or.inl hb))
        clear hR7 hk7 hR7'
        go_wp2_with fail
        refine (mem_load HR7.out.mem 0).mono ?_
        rintro e w8 ⟨rfl, hm8, hk8⟩
        rw [IB.out, if_pos rfl, if_pos rfl, AT.out]
        have hR8 := HR7.out.store hm8 (hk8.mono fun b hb => hb.1)
        have hst8 : (s2.m.load 0).stores = 1 := by unfold MemS.load; rw [IB.out]; exact ST.out
        obtain ⟨g, hrun, _⟩ := hR8.run
        have hk8' : Keeps (fun b => b < w.heap.size ∨ b = w3.heap.size + 1) w7 w8 := keeps_one hk8 HR7.out.km
        have HRun := hid hrun
        have HR8 := hid hR8
        have HST := hid hst8
        have HS8 := hid (HS7.out.keep hk8' fun b hb => hb)
        have HK8 := hid (HK7.out.trans (hk8'.mono fun b hb => Or.inl hb))
        clear hm8 hk8 hrun hR8 hst8 hk8'
        go_wp2_with fail
        refine (run_err HRun.out).mono ?_
        rintro e w9 ⟨rfl, rfl⟩
        rw [ER.out]
        go_wp2_with fail
        refine (mem_stores HR8.out.mem).mono ?_
        rintro e w9 ⟨rfl, rfl⟩
        rw [HST.out]
        go_wp2_with fail
        refine (program_any _ _ _ _ rfl _).mono ?_
        rintro e w9 ⟨rfl, rfl⟩
        go_wp2_with fail
        refine (step_fresh HR8.out (by rw [L2.out]; decide) _ _ HWF.out HS8.out).mono ?_
        rintro e w10 ⟨rfl, hR10, hk10⟩
        rw [stepP_over (s := ⟨s2.r, s2.m.load 0⟩) O2.out] at hR10 ⊢
        rw [O2.out]
        have HR10 := hid hR10
        have HK10 := hid (HK8.out.trans (hk10.mono fun b hb => Or.inl hb))
        clear hR10 hk10
        go_wp2_with fail
        refine (mem_stores HR10.out.mem).mono ?_
        rintro e w11 ⟨rfl, rfl⟩
        rw [HST.out]
        go_wp2_with fail
        exact hR'.out _ _ ⟨rfl, HK10.out⟩
end Go.Proofs.Ytjnaibmnpajfdaa
