/- StepAlone: the walk. -/
import Derived.Test.YtjnaibmnpajfdaaAlone
import Derived.Test.YtjnaibmnpajfdaaMemB
import Derived.Test.YtjnaibmnpajfdaaStepOne
import Derived.Test.YtjnaibmnpajfdaaStepOut
namespace Go.Proofs.Ytjnaibmnpajfdaa
open Go.RowKit

set_option maxRecDepth 100000 in
set_option maxHeartbeats 4000000 in
theorem stepAlone_call (n : Nat) (hn : n ≤ 255) (A : Option Addr) (cap : Nat) (l : List InsM) (hwf : ∀ x ∈ l, x.wf) (w : World)
    (hsl : SlAt w (· < w.heap.size) 3 (.slice A l.length cap) l.length (l.flatMap InsM.cells)) :
    Calls Try.prog 6 #[.int .u8 n, .slice A l.length cap] w fun e w' =>
      e = .returned (.bool true) ∧ Keeps (· < w.heap.size) w w' := by
  have hwf' : ∀ x ∈ l.take 60, x.wf := fun x hx => hwf x (List.mem_of_mem_take hx)
  have hcap : l.length ≤ cap ∧ cap ≤ maxLen := by
    obtain ⟨A', cap', h1, h2, h3, _⟩ := hsl
    injection h1 with _ _ e3
    subst e3
    exact ⟨h2, h3⟩
  have HC := hid hcap
  have HS := hid hsl
  have hl60 : (l.take 60).length ≤ 60 := by rw [List.length_take]; omega
  have hcutcells := prog_cells hsl.cut
  have hmin : (l.take 60).length = min l.length 60 := by rw [List.length_take, Nat.min_comm]
  obtain ⟨l', hl'⟩ : ∃ l', l' = l.take 60 := ⟨_, rfl⟩
  rw [← hl'] at hwf' hl60 hcutcells hmin
  have HL' := hid hl'
  have HWF := hid hwf'
  have HMin := hid hmin
  obtain ⟨A0, cap0, he0, hc1, hc2, hcells⟩ := hcutcells
  injection he0 with e1 _ e3
  subst e1 e3
  unfold maxLen at hc2
  have HX := hid hcells
  clear hwf hsl hcap hl' hwf' hmin hcells hc1
  have hmk := fun w => run_make_row' (P := Try.prog) 45 36 (.int .u32 0) 4 Try.underlying45 Try.infoU rfl .i64 .i64 (1 + n) (by omega) (by omega) w
  have ec : ((1 + n : Nat) : Int) = 1 + (n : Int) := by omega
  rw [ec] at hmk
  clear ec
  refine calls_hide fun R' hR' => ?_
  go_enter Try.func6, Try.ntmps6
  go_wp2_with fail
  refine (mem_newI w _ (by omega) (by omega)).mono ?_
  rintro e w1 ⟨rfl, hm1, hk1, hz1⟩
  have HM1 := hid hm1
  have HK1 := hid hk1
  have HZ1 := hid hz1
  clear hm1 hk1 hz1
  go_wp2_with fail
  refine (step_new w1 _).mono ?_
  rintro e w2 ⟨rfl, hr2, hk2, hz2⟩
  have hR2 : RM w2 (fun b => b < w.heap.size) w1.heap.size _ _ ⟨run0, _⟩ := RM.init HM1.out hr2 hk2 (fun b hb => by have := HZ1.out; omega)
  have HR2 := hid hR2
  have HK2 := hid (HK1.out.trans (hk2.mono fun b hb => by have := HZ1.out; omega))
  clear hr2 hk2 hz2 hR2
  go_wp2_with fail
  refine (fixed03 w2).mono ?_
  rintro e w3 ⟨rfl, hk3⟩
  have HR3 := hid (HR2.out.below hk3)
  have HK3 := hid (HK2.out.trans (hk3.mono HR2.out.lt))
  clear hk3
  generalize hm : w.heap.size + 1 = m at *
  have Hm := hid hm
  clear hm
  generalize hr : w1.heap.size = r at *
  have Hr := hid hr
  clear hr HZ1 HM1 HK1 HR2 HK2
  go_wp2_with (refine (cut_any A l.length cap HC.out.1 HC.out.2 _).mono ?_; rintro e w8 ⟨rfl, rfl⟩; rw [← HMin.out])
  have hR4 := HR3.out.more (.cells (madeCells #[.int .u32 0] (1 + n)) 36)
  have hB4 := made_blk w3 (.int .u32 0) (1 + n) 36
  have hK4 : Keeps (fun b => b < w.heap.size) w (w3.alloc (.cells (madeCells #[.int .u32 0] (1 + n)) 36)) := HK3.out.alloc (fun b hb => by have := HK3.out.size; omega) _
  have HR4 := hid hR4
  have HB4 := hid hB4
  have HK4 := hid hK4
  clear hR4 hB4 hK4 hmk
  generalize hw4 : w3.alloc (.cells (madeCells #[.int .u32 0] (1 + n)) 36) = w4 at *
  generalize hcb : w3.heap.size = cb at *
  have Hw4 := hid hw4
  have Hcb := hid hcb
  clear hw4 hcb
  have e0 : (1 + (n : Int)).toNat = 1 + n := by omega
  have hR5 := HR4.out
  rw [e0] at hR5
  have HR5 : Hid (RM w4 (fun b => b < w.heap.size ∨ b = cb) r m w.heap.size ⟨run0, ⟨List.replicate (1 + n) 0, 0, 0⟩⟩) := hR5
  have hB5 := HB4.out
  rw [show List.replicate (1 + n) (Value.int .u32 0) = (List.replicate (1 + n) (0 : Int)).map (Value.int .u32) by simp] at hB5
  have HB5 := hid hB5
  have hcb : w.heap.size ≤ cb := by have := Hcb.out; have := HK3.out.size; omega
  have hAI := alone_ideal l' 0 (List.replicate (1 + n) 0) 0 (by omega)
  generalize hRES : aloneM l' (List.replicate (1 + n) 0) 0 0 = RES at hAI
  have HRES := hid hRES
  have HAI := hid hAI
  clear hR5 hB5 hAI e0 hRES
  go_loopw [9, 10, 41] (fun last made i wr => ∃ (k md : Nat) (lv : Int) (cs : List Int), last = .int .u32 lv ∧ made = .int .i64 md ∧ i = .int .i64 k ∧ k ≤ l'.length ∧ U32 lv ∧ cs.length = 1 + n ∧ (∀ x ∈ cs, U32 x) ∧
      Blk wr cb (cs.map (Value.int .u32)) ∧ RM wr (fun b => b < w.heap.size ∨ b = cb) r m w.heap.size ⟨run0, ⟨List.replicate (1 + n) 0, 0, 0⟩⟩ ∧ Keeps (fun b => b < w.heap.size) w wr ∧
      aloneM (l'.drop k) cs lv md = RES ∧ md ≤ k) (fun _ _ i _ => l'.length - (intOf i).toNat)
  case atStart => exact ⟨0, 0, 0, _, rfl, rfl, rfl, Nat.zero_le _, by unfold U32; omega, List.length_replicate, fun x hx => by rw [List.eq_of_mem_replicate hx]; unfold U32; omega, HB5.out, HR5.out, HK4.out, by rw [← HRES.out]; simp, Nat.le_refl _⟩
  case round =>
    obtain ⟨k, md, lv, cs, rfl, rfl, rfl, hk, ⟨hl0, hl1⟩, hcl, hrg, hB, hR, hK, hal, hmd⟩ := hrel
    have HB := hid hB
    have HR := hid hR
    have HK := hid hK
    have HCL := hid hcl
    have HRG := hid hrg
    have HAL := hid hal
    clear hB hR hK hcl hrg hal
    by_cases hlt : k < l'.length
    · obtain ⟨b, off, rfl, hKb, x0, x1, x2⟩ := HX.out k l'[k] (List.getElem?_eq_getElem hlt)
      have hxw := HWF.out l'[k] (List.getElem_mem hlt)
      have hdrop : l'.drop k = l'[k] :: l'.drop (k + 1) := List.drop_eq_getElem_cons hlt
      have hal := HAL.out
      rw [hdrop] at hal
      generalize l'[k] = x at *
      obtain ⟨op, a, vv⟩ := x
      simp only at x0 x1 x2
      obtain ⟨_, _, hv0, hv1⟩ := hxw
      have y0 := (World.cell?_of_block (a := ⟨b, off + k * 3, none⟩) (HK.out.block b hKb)).trans x0
      have y1 := (World.cell?_of_block (a := ⟨b, off + k * 3 + 1, none⟩) (HK.out.block b hKb)).trans x1
      have y2 := (World.cell?_of_block (a := ⟨b, off + k * 3 + 2, none⟩) (HK.out.block b hKb)).trans x2
      have HD := hid hdrop
      have HLV := hid (show U32 lv from ⟨hl0, hl1⟩)
      have HVV := hid (show U32 vv from ⟨hv0, hv1⟩)
      clear hdrop x0 x1 x2
      unfold aloneM at hal
      simp only at hal
      by_cases hst : op = 4 ∧ lv % 2 = 1
      · rw [if_pos hst] at hal
        have hid0 := HAI.out
        rw [← hal] at hid0
        have HID : Hid ((progT l' 0 0).norm.ideal (List.replicate (1 + n) 0) = some ((), cs, md)) := (Tree.ideal_norm _ _).trans hid0
        clear hal hid0
        obtain ⟨rfl, hodd⟩ := hst
        have hb : (lv % 2 == 1) = true := by simpa using hodd
        clear hodd
        have HR' := hid (HR.out.alloc (.cells #[.int .i64 4, .int .i64 a, .int .u32 vv] 38))
        have HB' := hid (HB.out.alloc (.cells #[.int .i64 4, .int .i64 a, .int .u32 vv] 38))
        have HK' := hid (HK.out.alloc (fun b hb => by have := HK.out.size; omega) (.cells #[.int .i64 4, .int .i64 a, .int .u32 vv] 38))
        clear HR HB HK
        have HR := HR'
        have HB := HB'
        have HK := HK'
        clear HR' HB' HK'
        go_wp2_with fail
        go_loopw [14] (fun st wr => ∃ (j n' : Nat) (s : St) (rest : Tree Unit), st = .int .i64 j ∧ j ≤ 60 ∧ Way (progT l' 0 0) s rest ∧ rest.ideal s.m.cells = some ((), cs, n') ∧ s.r.log.length = j ∧
            ((j = 0 ∧ n' = md) ∨ (0 < j ∧ j + n' = md ∧ 1 ≤ n')) ∧ RM wr (fun b => b < w.heap.size ∨ b = cb) r m w.heap.size s ∧ Blk wr cb (cs.map (Value.int .u32)) ∧ Keeps (fun b => b < w.heap.size) w wr)
          (fun st _ => 200 - (intOf st).toNat)
        case atStart => exact ⟨0, md, _, _, rfl, by omega, way_start _ _ _ _ _ _, HID.out, rfl, Or.inl ⟨rfl, rfl⟩, HR.out, HB.out, HK.out⟩
        case round =>
          obtain ⟨j, n', s, rest, rfl, hj, hway, hid', hlen, hjn, hR2, hB2, hK2⟩ := hrel
          have HWY := hid hway
          have HI := hid hid'
          have HR2 := hid hR2
          have HB2 := hid hB2
          have HK2 := hid hK2
          have HLN := hid hlen
          have HJN := hid hjn
          have hsl := (HS.out.keep HK2.out fun b hb => hb).cut
          rw [← HMin.out, ← HL'.out] at hsl
          have HSL := hid hsl
          clear hway hid' hR2 hB2 hK2 hlen hjn hsl
          go_wp2_with fail
          refine (cut_any _ l.length cap HC.out.1 HC.out.2 _).mono ?_
          rintro e w8 ⟨rfl, rfl⟩
          rw [← HMin.out]
          go_wp2_with fail
          refine (program_any _ _ _ _ rfl _).mono ?_
          rintro e w8 ⟨rfl, rfl⟩
          go_wp2_with fail
          refine (step_fresh HR2.out (by have := HLN.out; omega) _ l' HWF.out ?_).mono ?_
          · exact HSL.out.mono fun b hb => Or.inl hb
          rintro e w9 ⟨rfl, hR9, hk9⟩
          rw [stepP_run HWY.out.over] at hR9 ⊢
          rcases ideal_step HWY.out HI.out with ⟨q1, q2, q3, q4, q5, _⟩ | ⟨q1, q2, rest', q3, q4, q5⟩
          · have hB9 := HB2.out.keep hk9 (Or.inr rfl)
            have hcnt : (s.step (progT l' 0 0)).2.r.log.length = md := by have := HLN.out; have := HJN.out; omega
            have hst : (j : Int) + 1 = if (1 : Int) < md then (md : Int) else 1 := by have := HJN.out; split <;> omega
            rw [q2]
            generalize (s.step (progT l' 0 0)).2 = s' at *
            have HR9 := hid hR9
            have HB9 := hid hB9
            have HK9 := hid (HK2.out.trans (hk9.mono fun b hb => Or.inl hb))
            have HST := hid hst
            have Q2 := hid q2
            have Q3 := hid q3
            have Q4 := hid q4
            have HCN := hid hcnt
            clear hR9 hk9 hB9 hst q1 q2 q3 q4 q5 hcnt
            obtain ⟨g, hrun, _⟩ := HR9.out.run
            have HRun := hid hrun
            clear hrun
            go_wp2_with fail
            refine (run_over HRun.out).mono ?_
            rintro e w10 ⟨rfl, rfl⟩
            rw [Q2.out]
            go_wp2_with fail
            refine (run_err HRun.out).mono ?_
            rintro e w10 ⟨rfl, rfl⟩
            rw [Q3.out]
            have hcase : (md ≤ 1 ∧ j = 0) ∨ (1 < md ∧ j + 1 = md) := by have := HST.out; split at this <;> omega
            rcases hcase with ⟨h1, rfl⟩ | ⟨h1, h2⟩
            · have hm1 : ¬ ((1 : Int) < (md : Int)) := by omega
              go_wp2_with fail
              refine (run_count HRun.out).mono ?_
              rintro e w10 ⟨rfl, rfl⟩
              rw [HCN.out]
              go_wp2_with fail
              refine (mem_cells HR9.out.mem).mono ?_
              rintro e w11 ⟨rfl, hb11, hk11⟩
              rw [Q4.out] at hb11 ⊢
              have ha := SlAt.of_blk (K := fun _ => True) hb11 trivial (by rw [List.length_map, HCL.out]; unfold maxLen; omega)
              have hb := SlAt.of_blk (K := fun _ => True) (HB9.out.keep hk11 (HB9.out.lt)) trivial (by rw [List.length_map, HCL.out]; unfold maxLen; omega)
              rw [List.length_map] at ha hb
              rw [← HCL.out]
              have HA := hid ha
              have HBB := hid hb
              have HK11 := hid (HK9.out.trans (hk11.mono fun b hb => HR9.out.lt b (Or.inl hb)))
              clear ha hb hb11 hk11
              go_wp2_with fail
              refine (same_any HA.out HBB.out).mono ?_
              rintro e w12 ⟨rfl, n12, rfl⟩
              rw [decide_eq_true rfl]
              go_wp2_with fail
              exact hR'.out _ _ ⟨rfl, HK11.out.drewN n12⟩
            · have hm1 : (1 : Int) < (md : Int) := by omega
              go_wp2_with fail
              refine (run_count HRun.out).mono ?_
              rintro e w10 ⟨rfl, rfl⟩
              rw [HCN.out]
              go_wp2_with fail
              refine (mem_cells HR9.out.mem).mono ?_
              rintro e w11 ⟨rfl, hb11, hk11⟩
              rw [Q4.out] at hb11 ⊢
              have ha := SlAt.of_blk (K := fun _ => True) hb11 trivial (by rw [List.length_map, HCL.out]; unfold maxLen; omega)
              have hb := SlAt.of_blk (K := fun _ => True) (HB9.out.keep hk11 (HB9.out.lt)) trivial (by rw [List.length_map, HCL.out]; unfold maxLen; omega)
              rw [List.length_map] at ha hb
              rw [← HCL.out]
              have HA := hid ha
              have HBB := hid hb
              have HK11 := hid (HK9.out.trans (hk11.mono fun b hb => HR9.out.lt b (Or.inl hb)))
              clear ha hb hb11 hk11
              go_wp2_with fail
              refine (same_any HA.out HBB.out).mono ?_
              rintro e w12 ⟨rfl, n12, rfl⟩
              rw [decide_eq_true rfl]
              go_wp2_with fail
              exact hR'.out _ _ ⟨rfl, HK11.out.drewN n12⟩
          · rw [q2]
            have HR9 := hid hR9
            have HB9 := hid (HB2.out.keep hk9 (Or.inr rfl))
            have HK9 := hid (HK2.out.trans (hk9.mono fun b hb => Or.inl hb))
            have Q3 := hid q3
            have Q4 := hid q4
            have Q5 := hid q5
            clear hR9 hk9 q2 q3 q4 q5
            go_wp2_with fail
            go_roundw
            case rel => exact ⟨j + 1, n' - 1, _, rest', by go_num, by have := HJN.out; omega, Q3.out, Q4.out, by rw [Q5.out, HLN.out], Or.inr (by have := HJN.out; omega), HR9.out, HB9.out, HK9.out⟩
            case measure => simp [intOf]; omega
      · rw [if_neg hst] at hal
        by_cases hskip : op < 0 ∨ 3 < op
        · rw [if_pos hskip] at hal
          have HAL2 := hid hal
          clear hal
          have HR' := hid (HR.out.alloc (.cells #[.int .i64 op, .int .i64 a, .int .u32 vv] 38))
          have HB' := hid (HB.out.alloc (.cells #[.int .i64 op, .int .i64 a, .int .u32 vv] 38))
          have HK' := hid (HK.out.alloc (fun b hb => by have := HK.out.size; omega) (.cells #[.int .i64 op, .int .i64 a, .int .u32 vv] 38))
          by_cases h4 : op = 4
          · subst h4
            have hb : (lv % 2 == 1) = false := by
              have : ¬ lv % 2 = 1 := fun h => hst ⟨rfl, h⟩
              simpa using this
            clear hst hskip
            go_wp2_with fail
            go_roundw
            case rel => exact ⟨k + 1, md, lv, cs, rfl, rfl, by go_num, by omega, HLV.out, HCL.out, HRG.out, HB'.out, HR'.out, HK'.out, HAL2.out, by omega⟩
            case measure => simp [intOf]; omega
          · have hb : (op == 4) = false := by simpa using h4
            clear hst h4
            rcases hskip with hskip | hskip
            all_goals
              go_wp2_with fail
              go_roundw
              case rel => exact ⟨k + 1, md, lv, cs, rfl, rfl, by go_num, by omega, HLV.out, HCL.out, HRG.out, HB'.out, HR'.out, HK'.out, HAL2.out, by omega⟩
              case measure => simp [intOf]; omega
        · rw [if_neg hskip] at hal
          have hop0 : 0 ≤ op := by omega
          have hop3 : op ≤ 3 := by omega
          have hne4 : (op == 4) = false := by simp; omega
          have HST := hid hst
          have HAL2 := hid hal
          clear hst hskip hal
          have HR1 := hid (HR.out.more (.cells #[.int .i64 op, .int .i64 a, .int .u32 vv] 38))
          have HB1 := hid (HB.out.alloc (.cells #[.int .i64 op, .int .i64 a, .int .u32 vv] 38))
          have HK1 := hid (HK.out.alloc (fun b hb => by have := HK.out.size; omega) (.cells #[.int .i64 op, .int .i64 a, .int .u32 vv] 38))
          have HX1 := hid (Blk.new wr [.int .i64 op, .int .i64 a, .int .u32 vv] 38)
          go_wp2_with fail
          refine (addr_any op a vv lv _ HVV.out HLV.out).mono ?_
          rintro e w2 ⟨rfl, hk2⟩
          have hR2 := HR1.out.below hk2
          have hB2 := HB1.out.keep hk2 HB1.out.lt
          have hX2 := HX1.out.keep hk2 HX1.out.lt
          have hK2 := HK1.out.trans (hk2.mono fun b hb => HR1.out.lt b (Or.inl (Or.inl hb)))
          have z0 := hX2.cell 0
          have z1 := hX2.cell 1
          have z2 := hX2.cell 2
          simp only [List.getElem?_cons_zero, List.getElem?_cons_succ] at z0 z1 z2
          have HR2 := hid hR2
          have HB2 := hid hB2
          have HK2 := hid hK2
          clear hR2 hB2 hK2 hk2 hX2
          have hal := HAL2.out
          generalize addrM ⟨op, a, vv⟩ lv = ad at *
          by_cases hout : ad < 0 ∨ (cs.length : Int) ≤ ad
          · clear hal
            have HCL2 := HCL.out
            rcases hout with h | h
            · go_wp2_with fail
              exact hR'.out _ _ ⟨rfl, HK2.out⟩
            · have h' : (1 : Int) + n ≤ ad := by omega
              clear HCL2 h
              go_wp2_with fail
              all_goals exact hR'.out _ _ ⟨rfl, HK2.out⟩
          · rw [if_neg hout] at hal
            have ha0 : 0 ≤ ad := by omega
            have ha1 : ad < 1 + (n : Int) := by have := HCL.out; omega
            have yc : w2.cell? ⟨cb, ad.toNat, none⟩ = some (.int .u32 (cs.getD ad.toNat 0)) := by
              rw [HB2.out.cell, List.getElem?_map, List.getElem?_eq_getElem (by have := HCL.out; omega), List.getD_eq_getElem?_getD, List.getElem?_eq_getElem (by have := HCL.out; omega)]; rfl
            have yf := HB2.out.free ad.toNat
            have hval : U32 (cs.getD ad.toNat 0) := by
              rw [List.getD_eq_getElem?_getD, List.getElem?_eq_getElem (by have := HCL.out; omega)]; exact HRG.out _ (List.getElem_mem _)
            clear hout
            generalize cs.getD ad.toNat 0 = cv at *
            have HVAL := hid hval
            clear hval
            by_cases h02 : op = 0 ∨ op = 2
            · rw [if_pos h02] at hal
              have HAL3 := hid hal
              clear hal
              rcases h02 with rfl | rfl
              all_goals
                clear hop0 hop3
                go_wp2_with fail
                go_roundw
                case rel => exact ⟨k + 1, md + 1, cv, cs, rfl, by go_num, by go_num, by omega, HVAL.out, HCL.out, HRG.out, HB2.out, HR2.out.mono (fun b hb => Or.inl hb), HK2.out, HAL3.out, by omega⟩
                case measure => simp [intOf]; omega
            · rw [if_neg h02] at hal
              by_cases h1 : op = 1
              · rw [if_pos h1] at hal
                have HAL3 := hid hal
                clear hal h02
                subst h1
                clear hop0 hop3
                go_wp2_with fail
                go_roundw
                case rel => exact ⟨k + 1, md + 1, lv, cs.set ad.toNat vv, rfl, by go_num, by go_num, by omega, HLV.out, by rw [List.length_set]; exact HCL.out, fun x hx => (by rcases List.mem_or_eq_of_mem_set hx with hx | hx; exact HRG.out x hx; exact hx ▸ HVV.out), by rw [List.map_set]; exact HB2.out.set _ _, (HR2.out.mono (fun b hb => Or.inl hb) : RM w2 (fun b => b < w.heap.size ∨ b = cb) _ _ _ _).setK (Or.inr rfl) _, HK2.out.setCell (by simp; omega) _, HAL3.out, by omega⟩
                case measure => simp [intOf]; omega
              · rw [if_neg h1] at hal
                have HAL3 := hid hal
                have h3 : op = 3 := by omega
                clear hal h02 h1
                subst h3
                clear hop0 hop3
                go_wp2_with fail
                go_roundw
                case rel => exact ⟨k + 1, md + 1, lv, cs.set ad.toNat ((lv + vv) % 4294967296), rfl, by go_num, by go_num, by omega, HLV.out, by rw [List.length_set]; exact HCL.out, fun x hx => (by rcases List.mem_or_eq_of_mem_set hx with hx | hx; exact HRG.out x hx; subst hx; unfold U32; omega), by rw [List.map_set]; exact HB2.out.set _ _, (HR2.out.mono (fun b hb => Or.inl hb) : RM w2 (fun b => b < w.heap.size ∨ b = cb) _ _ _ _).setK (Or.inr rfl) _, HK2.out.setCell (by simp; omega) _, HAL3.out, by omega⟩
                case measure => simp [intOf]; omega
    · have hkl : k = l'.length := by omega
      subst hkl
      have hal := HAL.out
      rw [List.drop_length] at hal
      have hid0 := HAI.out
      rw [← hal] at hid0
      have HID : Hid ((progT l' 0 0).norm.ideal (List.replicate (1 + n) 0) = some ((), cs, md)) := (Tree.ideal_norm _ _).trans hid0
      clear hal hid0
      go_wp2_with fail
      go_loopw [14] (fun st wr => ∃ (j n' : Nat) (s : St) (rest : Tree Unit), st = .int .i64 j ∧ j ≤ 60 ∧ Way (progT l' 0 0) s rest ∧ rest.ideal s.m.cells = some ((), cs, n') ∧ s.r.log.length = j ∧
          ((j = 0 ∧ n' = md) ∨ (0 < j ∧ j + n' = md ∧ 1 ≤ n')) ∧ RM wr (fun b => b < w.heap.size ∨ b = cb) r m w.heap.size s ∧ Blk wr cb (cs.map (Value.int .u32)) ∧ Keeps (fun b => b < w.heap.size) w wr)
        (fun st _ => 200 - (intOf st).toNat)
      case atStart => exact ⟨0, md, _, _, rfl, by omega, way_start _ _ _ _ _ _, HID.out, rfl, Or.inl ⟨rfl, rfl⟩, HR.out, HB.out, HK.out⟩
      case round =>
        obtain ⟨j, n', s, rest, rfl, hj, hway, hid', hlen, hjn, hR2, hB2, hK2⟩ := hrel
        have HWY := hid hway
        have HI := hid hid'
        have HR2 := hid hR2
        have HB2 := hid hB2
        have HK2 := hid hK2
        have HLN := hid hlen
        have HJN := hid hjn
        have hsl := (HS.out.keep HK2.out fun b hb => hb).cut
        rw [← HMin.out, ← HL'.out] at hsl
        have HSL := hid hsl
        clear hway hid' hR2 hB2 hK2 hlen hjn hsl
        go_wp2_with fail
        refine (cut_any _ l.length cap HC.out.1 HC.out.2 _).mono ?_
        rintro e w8 ⟨rfl, rfl⟩
        rw [← HMin.out]
        go_wp2_with fail
        refine (program_any _ _ _ _ rfl _).mono ?_
        rintro e w8 ⟨rfl, rfl⟩
        go_wp2_with fail
        refine (step_fresh HR2.out (by have := HLN.out; omega) _ l' HWF.out ?_).mono ?_
        · exact HSL.out.mono fun b hb => Or.inl hb
        rintro e w9 ⟨rfl, hR9, hk9⟩
        rw [stepP_run HWY.out.over] at hR9 ⊢
        rcases ideal_step HWY.out HI.out with ⟨q1, q2, q3, q4, q5, _⟩ | ⟨q1, q2, rest', q3, q4, q5⟩
        · have hB9 := HB2.out.keep hk9 (Or.inr rfl)
          have hcnt : (s.step (progT l' 0 0)).2.r.log.length = md := by have := HLN.out; have := HJN.out; omega
          have hst : (j : Int) + 1 = if (1 : Int) < md then (md : Int) else 1 := by have := HJN.out; split <;> omega
          rw [q2]
          generalize (s.step (progT l' 0 0)).2 = s' at *
          have HR9 := hid hR9
          have HB9 := hid hB9
          have HK9 := hid (HK2.out.trans (hk9.mono fun b hb => Or.inl hb))
          have HST := hid hst
          have Q2 := hid q2
          have Q3 := hid q3
          have Q4 := hid q4
          have HCN := hid hcnt
          clear hR9 hk9 hB9 hst q1 q2 q3 q4 q5 hcnt
          obtain ⟨g, hrun, _⟩ := HR9.out.run
          have HRun := hid hrun
          clear hrun
          go_wp2_with fail
          refine (run_over HRun.out).mono ?_
          rintro e w10 ⟨rfl, rfl⟩
          rw [Q2.out]
          go_wp2_with fail
          refine (run_err HRun.out).mono ?_
          rintro e w10 ⟨rfl, rfl⟩
          rw [Q3.out]
          have hcase : (md ≤ 1 ∧ j = 0) ∨ (1 < md ∧ j + 1 = md) := by have := HST.out; split at this <;> omega
          rcases hcase with ⟨h1, rfl⟩ | ⟨h1, h2⟩
          · have hm1 : ¬ ((1 : Int) < (md : Int)) := by omega
            go_wp2_with fail
            refine (run_count HRun.out).mono ?_
            rintro e w10 ⟨rfl, rfl⟩
            rw [HCN.out]
            go_wp2_with fail
            refine (mem_cells HR9.out.mem).mono ?_
            rintro e w11 ⟨rfl, hb11, hk11⟩
            rw [Q4.out] at hb11 ⊢
            have ha := SlAt.of_blk (K := fun _ => True) hb11 trivial (by rw [List.length_map, HCL.out]; unfold maxLen; omega)
            have hb := SlAt.of_blk (K := fun _ => True) (HB9.out.keep hk11 (HB9.out.lt)) trivial (by rw [List.length_map, HCL.out]; unfold maxLen; omega)
            rw [List.length_map] at ha hb
            rw [← HCL.out]
            have HA := hid ha
            have HBB := hid hb
            have HK11 := hid (HK9.out.trans (hk11.mono fun b hb => HR9.out.lt b (Or.inl hb)))
            clear ha hb hb11 hk11
            go_wp2_with fail
            refine (same_any HA.out HBB.out).mono ?_
            rintro e w12 ⟨rfl, n12, rfl⟩
            rw [decide_eq_true rfl]
            go_wp2_with fail
            exact hR'.out _ _ ⟨rfl, HK11.out.drewN n12⟩
          · have hm1 : (1 : Int) < (md : Int) := by omega
            go_wp2_with fail
            refine (run_count HRun.out).mono ?_
            rintro e w10 ⟨rfl, rfl⟩
            rw [HCN.out]
            go_wp2_with fail
            refine (mem_cells HR9.out.mem).mono ?_
            rintro e w11 ⟨rfl, hb11, hk11⟩
            rw [Q4.out] at hb11 ⊢
            have ha := SlAt.of_blk (K := fun _ => True) hb11 trivial (by rw [List.length_map, HCL.out]; unfold maxLen; omega)
            have hb := SlAt.of_blk (K := fun _ => True) (HB9.out.keep hk11 (HB9.out.lt)) trivial (by rw [List.length_map, HCL.out]; unfold maxLen; omega)
            rw [List.length_map] at ha hb
            rw [← HCL.out]
            have HA := hid ha
            have HBB := hid hb
            have HK11 := hid (HK9.out.trans (hk11.mono fun b hb => HR9.out.lt b (Or.inl hb)))
            clear ha hb hb11 hk11
            go_wp2_with fail
            refine (same_any HA.out HBB.out).mono ?_
            rintro e w12 ⟨rfl, n12, rfl⟩
            rw [decide_eq_true rfl]
            go_wp2_with fail
            exact hR'.out _ _ ⟨rfl, HK11.out.drewN n12⟩
        · rw [q2]
          have HR9 := hid hR9
          have HB9 := hid (HB2.out.keep hk9 (Or.inr rfl))
          have HK9 := hid (HK2.out.trans (hk9.mono fun b hb => Or.inl hb))
          have Q3 := hid q3
          have Q4 := hid q4
          have Q5 := hid q5
          clear hR9 hk9 q2 q3 q4 q5
          go_wp2_with fail
          go_roundw
          case rel => exact ⟨j + 1, n' - 1, _, rest', by go_num, by have := HJN.out; omega, Q3.out, Q4.out, by rw [Q5.out, HLN.out], Or.inr (by have := HJN.out; omega), HR9.out, HB9.out, HK9.out⟩
          case measure => simp [intOf]; omega
end Go.Proofs.Ytjnaibmnpajfdaa
