/- StepApart: the walk. -/
import Derived.Test.YtjnaibmnpajfdaaFam
import Derived.Test.YtjnaibmnpajfdaaMemB
import Derived.Test.YtjnaibmnpajfdaaStepOne
namespace Go.Proofs.Ytjnaibmnpajfdaa
open Go.RowKit

set_option maxRecDepth 100000 in
set_option maxHeartbeats 2000000 in
theorem stepApart_call (n : Nat) (hn : n ≤ 255) (A1 A2 : Option Addr) (cap1 cap2 : Nat) (l1 l2 : List InsM) (hwf1 : ∀ x ∈ l1, x.wf) (hwf2 : ∀ x ∈ l2, x.wf) (vt : Value) (ts : List Int) (w : World)
    (hs1 : SlAt w (· < w.heap.size) 3 (.slice A1 l1.length cap1) l1.length (l1.flatMap InsM.cells))
    (hs2 : SlAt w (· < w.heap.size) 3 (.slice A2 l2.length cap2) l2.length (l2.flatMap InsM.cells))
    (ht : SlAt w (· < w.heap.size) 1 vt ts.length (ts.map (Value.int .u8))) (htr : ∀ x ∈ ts, 0 ≤ x ∧ x ≤ 255) :
    Calls Try.prog 7 #[.int .u8 n, .slice A1 l1.length cap1, .slice A2 l2.length cap2, vt] w fun e w' =>
      e = .returned (.bool true) ∧ Keeps (· < w.heap.size) w w' := by
  have HW1 := hid hwf1
  have HW2 := hid hwf2
  have HC1 := hid hs1.form
  have HC2 := hid hs2.form
  have HS1 := hid hs1
  have HS2 := hid hs2
  have HT := hid ht
  have HTR := hid htr
  obtain ⟨At, capt, rfl, ht1, ht2⟩ := ht.form
  unfold maxLen at ht2
  clear hwf1 hwf2 hs1 hs2 ht htr
  refine calls_hide fun R' hR' => ?_
  go_enter Try.func7, Try.ntmps7
  go_wp2_with fail
  refine (mem_newI w _ (by omega) (by omega)).mono ?_
  rintro e w1 ⟨rfl, hm1, hk1, hz1⟩
  have HM1 := hid hm1
  have HK1 := hid hk1
  have HZ1 := hid hz1
  clear hm1 hk1 hz1
  go_wp2_with fail
  refine (mem_newI w1 _ (by omega) (by omega)).mono ?_
  rintro e w2 ⟨rfl, hm2, hk2, hz2⟩
  have HM2 := hid hm2
  have HK2 := hid hk2
  have HZ2 := hid hz2
  clear hm2 hk2 hz2
  go_wp2_with fail
  refine (mem_newI w2 _ (by omega) (by omega)).mono ?_
  rintro e w3 ⟨rfl, hm3, hk3, hz3⟩
  have HM3 := hid hm3
  have HK3 := hid hk3
  have HZ3 := hid hz3
  clear hm3 hk3 hz3
  go_wp2_with fail
  refine (fixed03 w3).mono ?_
  rintro e w4 ⟨rfl, hk4⟩
  have HK4 := hid hk4
  clear hk4
  go_wp2_with fail
  refine (step_new w4 _).mono ?_
  rintro e w5 ⟨rfl, hr5, hk5, hz5⟩
  have HR5 := hid hr5
  have HK5 := hid hk5
  have HZ5 := hid hz5
  clear hr5 hk5 hz5
  go_wp2_with fail
  refine (step_new w5 _).mono ?_
  rintro e w6 ⟨rfl, hr6, hk6, hz6⟩
  have HR6 := hid hr6
  have HK6 := hid hk6
  have HZ6 := hid hz6
  clear hr6 hk6 hz6
  go_wp2_with fail
  refine (step_new w6 _).mono ?_
  rintro e w7 ⟨rfl, hr7, hk7, hz7⟩
  have hfam : ∃ (c1 c2 c3 : Nat) (s0 : St), Fam w7 (fun b => b < w.heap.size) [⟨w4.heap.size, w.heap.size + 1, c1, .slice none 0 0, s0⟩, ⟨w5.heap.size, w1.heap.size + 1, c2, .slice none 0 0, s0⟩, ⟨w6.heap.size, w2.heap.size + 1, c3, .slice none 0 0, s0⟩] ∧
      Keeps (fun b => b < w.heap.size) w w7 ∧ s0.r.log.length = 0 := by
    have z1 := HZ1.out; have z2 := HZ2.out; have z3 := HZ3.out; have z4 := HK4.out.size; have z5 := HZ5.out; have z6 := HZ6.out
    have k14 : Keeps (fun b => b < w1.heap.size) w1 w4 := (HK2.out.trans ((HK3.out.mono fun b hb => by omega).trans (HK4.out.mono fun b hb => by omega)))
    have k24 : Keeps (fun b => b < w2.heap.size) w2 w4 := HK3.out.trans (HK4.out.mono fun b hb => by omega)
    have m1 := HM1.out.keep k14 (show w.heap.size + 1 < w1.heap.size by omega) (show w.heap.size < w1.heap.size by omega)
    have m2 := HM2.out.keep k24 (show w1.heap.size + 1 < w2.heap.size by omega) (show w1.heap.size < w2.heap.size by omega)
    have m3 := HM3.out.keep HK4.out (show w2.heap.size + 1 < w3.heap.size by omega) (show w2.heap.size < w3.heap.size by omega)
    have f0 : Fam w4 (fun b => b < w.heap.size) [] := Fam.nil (fun b hb => by omega)
    have f1 := f0.push m1 HR5.out HK5.out z5 ⟨by omega, by omega⟩ (fun j y hy => by simp at hy)
    have f2 := f1.push (m2.keep HK5.out (show w1.heap.size + 1 < w4.heap.size by omega) (show w1.heap.size < w4.heap.size by omega)) HR6.out HK6.out z6 ⟨by omega, by omega⟩ (by
      intro j y hy
      match j, hy with
      | 0, hy =>
       have hy' := Option.some.inj hy
       subst hy'
       constructor <;> rintro (e | e | e | e) <;> simp at e <;> first | omega | cases e)
    have f3 := f2.push ((m3.keep HK5.out (show w2.heap.size + 1 < w4.heap.size by omega) (show w2.heap.size < w4.heap.size by omega)).keep HK6.out (show w2.heap.size + 1 < w5.heap.size by omega) (show w2.heap.size < w5.heap.size by omega)) hr7 hk7 hz7 ⟨by omega, by omega⟩ (by
      intro j y hy
      match j, hy with
      | 0, hy =>
        have hy' := Option.some.inj hy
        subst hy'
        constructor <;> rintro (e | e | e | e) <;> simp at e <;> first | omega | cases e
      | 1, hy =>
        have hy' := Option.some.inj hy
        subst hy'
        constructor <;> rintro (e | e | e | e) <;> simp at e <;> first | omega | cases e)
    refine ⟨_, _, _, _, f3, ?_, rfl⟩
    exact HK1.out.trans ((k14.mono fun b hb => by omega).trans ((HK5.out.mono fun b hb => by omega).trans ((HK6.out.mono fun b hb => by omega).trans (hk7.mono fun b hb => by omega))))
  obtain ⟨c1, c2, c3, s0, hF, hKw, hl0⟩ := hfam
  have HF := hid hF
  have HKw := hid hKw
  have HL0 := hid hl0
  clear hF hKw hl0 hr7 hk7 hz7
  generalize w.heap.size + 1 = m1 at *
  generalize w1.heap.size + 1 = m2 at *
  generalize w2.heap.size + 1 = m3 at *
  generalize w4.heap.size = r1 at *
  generalize w5.heap.size = r2 at *
  generalize w6.heap.size = r3 at *
  clear HR5 HK5 HZ5 HR6 HK6 HZ6 HM1 HM2 HM3 HZ1 HZ2 HZ3 HK1 HK2 HK3 HK4
  go_wp2_with fail
  go_loopw [61] (fun i wr => ∃ (k : Nat) (s sY : St) (g1 g2 g3 : Value), i = .int .i64 k ∧ k ≤ ts.length ∧ k ≤ 151 ∧
      Fam wr (fun b => b < w.heap.size) [⟨r1, m1, c1, g1, s⟩, ⟨r2, m2, c2, g2, sY⟩, ⟨r3, m3, c3, g3, s⟩] ∧ Keeps (fun b => b < w.heap.size) w wr ∧ s.r.log.length ≤ k ∧ sY.r.log.length ≤ k)
    (fun i _ => ts.length - (intOf i).toNat)
  case atStart => exact ⟨0, s0, s0, _, _, _, rfl, Nat.zero_le _, by omega, HF.out, HKw.out, by rw [HL0.out]; omega, by rw [HL0.out]; omega⟩
  case round =>
    obtain ⟨k, s, sY, g1, g2, g3, rfl, hk, hk2, hF, hKw, hl1, hl2⟩ := hrel
    clear HF HKw
    have HF := hid hF
    have HKw := hid hKw
    clear hF hKw
    by_cases hgo : k < ts.length ∧ k ≤ 150
    · obtain ⟨hlt, hle⟩ := hgo
      obtain ⟨b, off, cp, e1, hb, x0⟩ := HT.out.get k ts[k] (List.getElem?_eq_getElem hlt)
      have hr := HTR.out ts[k] (List.getElem_mem hlt)
      injection e1 with e1 _ e2
      subst e1 e2
      have y0 := (World.cell?_of_block (a := ⟨b, off + k, none⟩) (HKw.out.block b hb)).trans x0
      clear x0
      generalize ts[k] = tk at *
      obtain ⟨t0, t1⟩ := hr
      have hsl1 := (HS1.out.keep HKw.out fun b hb => hb).cut
      have hsl2 := (HS2.out.keep HKw.out fun b hb => hb).cut
      have HSL1 := hid hsl1
      have HSL2 := hid hsl2
      clear hsl1 hsl2
      by_cases hev : tk % 2 = 0
      · have hbev : (tk % 2 == 0) = true := by simpa using hev
        clear hev
        go_wp2_with fail
        refine (cut_any A2 l2.length cap2 (by obtain ⟨_, _, e, h⟩ := HC2.out; injection e with _ _ e; subst e; exact h.1) (by obtain ⟨_, _, e, h⟩ := HC2.out; injection e with _ _ e; subst e; exact h.2) _).mono ?_
        rintro e w8 ⟨rfl, rfl⟩
        go_wp2_with fail
        refine (program_any _ _ _ _ rfl _).mono ?_
        rintro e w8 ⟨rfl, rfl⟩
        go_wp2_with fail
        refine (step_fresh (HF.out.all 1 _ rfl).rest (by show sY.r.log.length < _; omega) _ (l2.take 60) (fun x hx => HW2.out x (List.mem_of_mem_take hx)) (HSL2.out.mono fun b hb => Or.inl hb)).mono ?_
        rintro e w9 ⟨rfl, hR9, hk9⟩
        obtain ⟨g', hF9⟩ := HF.out.step (i := 1) rfl hR9 hk9
        have hl9 := step_len sY (progT (l2.take 60) 0 0)
        have HF9 := hid hF9
        have HK9 := hid (HKw.out.trans (hk9.mono fun b hb => Or.inl hb))
        clear hR9 hk9 hF9
        go_wp2_with fail
        go_roundw
        case rel => exact ⟨k + 1, s, _, g1, g', g3, by go_num, by omega, by omega, HF9.out, HK9.out, by omega, by show (sY.stepP _).r.log.length ≤ _; omega⟩
        case measure => simp [intOf]; omega
      · have hbev : (tk % 2 == 0) = false := by simpa using hev
        clear hev
        go_wp2_with fail
        refine (cut_any A1 l1.length cap1 (by obtain ⟨_, _, e, h⟩ := HC1.out; injection e with _ _ e; subst e; exact h.1) (by obtain ⟨_, _, e, h⟩ := HC1.out; injection e with _ _ e; subst e; exact h.2) _).mono ?_
        rintro e w8 ⟨rfl, rfl⟩
        go_wp2_with fail
        refine (program_any _ _ _ _ rfl _).mono ?_
        rintro e w8 ⟨rfl, rfl⟩
        go_wp2_with fail
        refine (step_fresh (HF.out.all 0 _ rfl).rest (by show s.r.log.length < _; omega) _ (l1.take 60) (fun x hx => HW1.out x (List.mem_of_mem_take hx)) (HSL1.out.mono fun b hb => Or.inl hb)).mono ?_
        rintro e w9 ⟨rfl, hR9, hk9⟩
        obtain ⟨g', hF9⟩ := HF.out.step (i := 0) rfl hR9 hk9
        have hl9 := step_len s (progT (l1.take 60) 0 0)
        have HF9 : Hid (Fam w9 (fun b => b < w.heap.size) [⟨r1, m1, c1, g', s.stepP (progT (l1.take 60) 0 0)⟩, ⟨r2, m2, c2, g2, sY⟩, ⟨r3, m3, c3, g3, s⟩]) := hF9
        have HK9 := hid (HKw.out.trans (hk9.mono fun b hb => Or.inl hb))
        have HSL9 := hid (HSL1.out.keep hk9 fun b hb => Or.inl hb)
        clear hR9 hk9 hF9
        go_wp2_with fail
        refine (cut_any A1 l1.length cap1 (by obtain ⟨_, _, e, h⟩ := HC1.out; injection e with _ _ e; subst e; exact h.1) (by obtain ⟨_, _, e, h⟩ := HC1.out; injection e with _ _ e; subst e; exact h.2) _).mono ?_
        rintro e w8 ⟨rfl, rfl⟩
        go_wp2_with fail
        refine (program_any _ _ _ _ rfl _).mono ?_
        rintro e w8 ⟨rfl, rfl⟩
        go_wp2_with fail
        refine (step_fresh (HF9.out.all 2 _ rfl).rest (by show s.r.log.length < _; omega) _ (l1.take 60) (fun x hx => HW1.out x (List.mem_of_mem_take hx)) (HSL9.out.mono fun b hb => Or.inl hb)).mono ?_
        rintro e w10 ⟨rfl, hR10, hk10⟩
        obtain ⟨g'', hF10⟩ := HF9.out.step (i := 2) rfl hR10 hk10
        have HF10 : Hid (Fam w10 (fun b => b < w.heap.size) [⟨r1, m1, c1, g', s.stepP (progT (l1.take 60) 0 0)⟩, ⟨r2, m2, c2, g2, sY⟩, ⟨r3, m3, c3, g'', s.stepP (progT (l1.take 60) 0 0)⟩]) := hF10
        have HK10 := hid (HK9.out.trans (hk10.mono fun b hb => Or.inl hb))
        clear hR10 hk10 hF10
        generalize s.stepP (progT (l1.take 60) 0 0) = s' at *
        cases ho : s'.r.over
        all_goals
          go_wp2_with fail
          go_roundw
          case rel => exact ⟨k + 1, s', sY, g', g2, g'', by go_num, by omega, by omega, HF10.out, HK10.out, by omega, by omega⟩
          case measure => simp [intOf]; omega
    · have hsp : k = ts.length ∨ (k < ts.length ∧ 150 < k) := by omega
      clear hgo
      rcases hsp with hsp | ⟨hsp1, hsp2⟩
      · subst hsp
        go_wp2_with fail
        refine (mem_cells (HF.out.all 0 _ rfl).rest.mem).mono ?_
        rintro e w8 ⟨rfl, hb8, hk8⟩
        have hF8 := HF.out.below hk8
        have HF8 := hid hF8
        have HB8 := hid hb8
        have HK8 := hid (HKw.out.trans (hk8.mono fun b hb => HF.out.lt b hb))
        clear hF8 hb8 hk8
        go_wp2_with fail
        refine (mem_cells (HF8.out.all 2 _ rfl).rest.mem).mono ?_
        rintro e w9 ⟨rfl, hb9, hk9⟩
        have hF9 := HF8.out.below hk9
        have hb89 := HB8.out.keep hk9 HB8.out.lt
        have HF9 := hid hF9
        have HB9 := hid hb9
        have HB89 := hid hb89
        have HK9 := hid (HK8.out.trans (hk9.mono fun b hb => HF8.out.lt b hb))
        have hsm : s.m.cells.length ≤ 65536 := (HF9.out.all 0 _ rfl).rest.mem.small
        clear hF9 hb9 hk9 hb89
        have ha := SlAt.of_blk (K := fun _ => True) HB89.out trivial (by rw [List.length_map]; show s.m.cells.length ≤ _; unfold maxLen; omega)
        have hb := SlAt.of_blk (K := fun _ => True) HB9.out trivial (by rw [List.length_map]; show s.m.cells.length ≤ _; unfold maxLen; omega)
        rw [List.length_map] at ha hb
        have HA := hid ha
        have HB := hid hb
        clear ha hb hsm
        go_wp2_with fail
        refine (same_any HA.out HB.out).mono ?_
        rintro e w10 ⟨rfl, n10, rfl⟩
        rw [decide_eq_true rfl]
        have hF10 : Fam (w9.drewN n10) (fun b => b < w.heap.size) _ := HF9.out.below ((Keeps.refl _ _).drewN n10)
        have HF10 := hid hF10
        have HK10 := hid (HK9.out.drewN n10)
        clear hF10
        go_wp2_with fail
        refine (run_count (HF10.out.all 0 _ rfl).run).mono ?_
        rintro e w11 ⟨rfl, rfl⟩
        go_wp2_with fail
        refine (run_count (HF10.out.all 2 _ rfl).run).mono ?_
        rintro e w11 ⟨rfl, rfl⟩
        go_wp2_with fail
        refine (run_err (HF10.out.all 0 _ rfl).run).mono ?_
        rintro e w11 ⟨rfl, rfl⟩
        go_wp2_with fail
        refine (run_err (HF10.out.all 2 _ rfl).run).mono ?_
        rintro e w11 ⟨rfl, rfl⟩
        go_wp2_with fail
        exact hR'.out _ _ ⟨rfl, HK10.out⟩
      · obtain ⟨b, off, cp, e1, hb, x0⟩ := HT.out.get k ts[k] (List.getElem?_eq_getElem hsp1)
        injection e1 with e1 _ e2
        subst e1 e2
        have y0 := (World.cell?_of_block (a := ⟨b, off + k, none⟩) (HKw.out.block b hb)).trans x0
        clear x0
        generalize ts[k] = tk at *
        go_wp2_with fail
        refine (mem_cells (HF.out.all 0 _ rfl).rest.mem).mono ?_
        rintro e w8 ⟨rfl, hb8, hk8⟩
        have hF8 := HF.out.below hk8
        have HF8 := hid hF8
        have HB8 := hid hb8
        have HK8 := hid (HKw.out.trans (hk8.mono fun b hb => HF.out.lt b hb))
        clear hF8 hb8 hk8
        go_wp2_with fail
        refine (mem_cells (HF8.out.all 2 _ rfl).rest.mem).mono ?_
        rintro e w9 ⟨rfl, hb9, hk9⟩
        have hF9 := HF8.out.below hk9
        have hb89 := HB8.out.keep hk9 HB8.out.lt
        have HF9 := hid hF9
        have HB9 := hid hb9
        have HB89 := hid hb89
        have HK9 := hid (HK8.out.trans (hk9.mono fun b hb => HF8.out.lt b hb))
        have hsm : s.m.cells.length ≤ 65536 := (HF9.out.all 0 _ rfl).rest.mem.small
        clear hF9 hb9 hk9 hb89
        have ha := SlAt.of_blk (K := fun _ => True) HB89.out trivial (by rw [List.length_map]; show s.m.cells.length ≤ _; unfold maxLen; omega)
        have hb := SlAt.of_blk (K := fun _ => True) HB9.out trivial (by rw [List.length_map]; show s.m.cells.length ≤ _; unfold maxLen; omega)
        rw [List.length_map] at ha hb
        have HA := hid ha
        have HB := hid hb
        clear ha hb hsm
        go_wp2_with fail
        refine (same_any HA.out HB.out).mono ?_
        rintro e w10 ⟨rfl, n10, rfl⟩
        rw [decide_eq_true rfl]
        have hF10 : Fam (w9.drewN n10) (fun b => b < w.heap.size) _ := HF9.out.below ((Keeps.refl _ _).drewN n10)
        have HF10 := hid hF10
        have HK10 := hid (HK9.out.drewN n10)
        clear hF10
        go_wp2_with fail
        refine (run_count (HF10.out.all 0 _ rfl).run).mono ?_
        rintro e w11 ⟨rfl, rfl⟩
        go_wp2_with fail
        refine (run_count (HF10.out.all 2 _ rfl).run).mono ?_
        rintro e w11 ⟨rfl, rfl⟩
        go_wp2_with fail
        refine (run_err (HF10.out.all 0 _ rfl).run).mono ?_
        rintro e w11 ⟨rfl, rfl⟩
        go_wp2_with fail
        refine (run_err (HF10.out.all 2 _ rfl).run).mono ?_
        rintro e w11 ⟨rfl, rfl⟩
        go_wp2_with fail
        exact hR'.out _ _ ⟨rfl, HK10.out⟩
end Go.Proofs.Ytjnaibmnpajfdaa
