/- TableVersions: the walk. -/
import Derived.Test.YtjnaibmnpajfdaaVersD
namespace Go.Proofs.Ytjnaibmnpajfdaa
open Go.RowKit

set_option maxRecDepth 100000 in
set_option maxHeartbeats 4000000 in
theorem tableVersions_call (A : Option Addr) (cap : Nat) (acts : List ActM) (hwf : ∀ x ∈ acts, x.wf) (w : World)
    (hsl : SlAt w (· < w.heap.size) 4 (.slice A acts.length cap) acts.length (acts.flatMap ActM.cells)) :
    Calls Try.prog 9 #[.slice A acts.length cap] w fun e w' => e = .returned (.bool true) ∧ Keeps (· < w.heap.size) w w' := by
  obtain ⟨A0, cap0, he, hc1, hc2⟩ := hsl.form
  injection he with e1 _ e3
  subst e1 e3
  unfold maxLen at hc2
  have HS := hid hsl
  have HWF := hid hwf
  clear hsl hwf
  refine calls_hide fun R' hR' => ?_
  go_enter Try.func9, Try.ntmps9
  go_wp2_with fail
  refine (mem_new w 64 (by omega) (by omega)).mono ?_
  rintro e w1 ⟨rfl, hm1, hk1, hz1⟩
  have HM1 := hid hm1
  have HK1 := hid hk1
  have HZ1 := hid hz1
  clear hm1 hk1 hz1
  generalize hws : w.heap.size = ws at *
  have HWS := hid hws
  clear hws
  generalize hmm : ws + 1 = m at *
  have Hmm := hid hmm
  clear hmm
  go_wp2_with fail
  refine (fixed11 w1).mono ?_
  rintro e w2 ⟨rfl, hk2⟩
  have hz1 := HZ1.out
  have hm0 := Hmm.out
  have HM2 := hid (HM1.out.keep hk2 (show m < w1.heap.size by omega) (show ws < w1.heap.size by omega))
  have HK2 := hid (HK1.out.trans (hk2.mono fun b hb => by omega))
  have hz2 : ws + 2 ≤ w2.heap.size := by have := hk2.size; omega
  have hz2' : w2.heap.size = w2.heap.size := rfl
  clear hk2 hz2'
  go_wp2_with fail
  have hK3 : Keeps (· < w2.heap.size) w2 (w2.alloc (.cells #[.slice none 0 0] 68)) := (Keeps.refl _ _).alloc (fun b hb => hb) _
  have hT0 : TabAt (List.replicate 64 0) [] := ⟨List.length_replicate, by simp, fun d x hx => by simp at hx, fun i hi => by
    rw [List.getD_eq_getElem?_getD]
    cases h : (List.replicate 64 (0 : Int))[i]? with
    | none => rfl
    | some x => exact List.eq_of_mem_replicate (List.mem_of_getElem? h)⟩
  have hS0 : SawAt (w2.alloc (.cells #[.slice none 0 0] 68)) ws m ws (.slice (some ⟨w2.heap.size, 0, none⟩) 1 1) [.slice none 0 0] [] := by
    refine ⟨⟨rfl, Or.inr ⟨w2.heap.size, 1, #[.slice none 0 0], rfl, Nat.zero_le _, heap_alloc_new _ _, Nat.le_refl _, by unfold maxLen; omega, rfl, rfl⟩⟩, ?_, ?_, ?_, ?_⟩
    · simp [Value.ownBlock]; omega
    · simp [Value.ownBlock]; omega
    · intro b hb; simp [Value.ownBlock] at hb; omega
    · intro j x hx
      match j, hx with
      | 0, hx =>
        have hx' := Option.some.inj hx
        subst hx'
        exact ⟨World.ownsRow_nil _ _ _ _, by simp [Value.ownBlock], by simp [Value.ownBlock]⟩
  have HM3 := hid (HM2.out.keep hK3 HM2.out.obj.lt HM2.out.cells.lt)
  have HK3 := hid (HK2.out.trans (hK3.mono fun b hb => by omega))
  have HT0 := hid hT0
  have HS0 := hid hS0
  clear hK3 hT0 hS0
  generalize hw3 : w2.alloc (.cells #[.slice none 0 0] 68) = w3 at *
  have HW3 := hid hw3
  clear hw3
  go_loopw [5, 6, 7, 29] (fun n v sv i wr => ∃ (k : Nat) (rows : List RowM) (vv : Nat) (μ : MemS) (vs : List Value) (B : Option Addr) (cp : Nat), i = .int .i64 k ∧ k ≤ acts.length ∧ k ≤ 41 ∧ vv ≤ k ∧ n = .int .i64 rows.length ∧ v = .int .u32 vv ∧
      sv = .slice B (vv + 1) cp ∧ vs.length = vv + 1 ∧ TabAt μ.cells rows ∧ Born rows vv ∧ MemAt wr m ws μ ∧ SawAt wr ws m ws (.slice B (vv + 1) cp) vs rows ∧ Keeps (· < ws) w wr) (fun _ _ _ i _ => acts.length - (intOf i).toNat)
  case atStart => exact ⟨0, [], 0, _, [.slice none 0 0], _, 1, rfl, Nat.zero_le _, by omega, Nat.le_refl _, rfl, rfl, rfl, rfl, HT0.out, fun x hx => (by cases hx), HM3.out, HS0.out, HK3.out⟩
  case round =>
    obtain ⟨k, rows, vv, μ, vs, B, cp, rfl, hk, hk41, hvk, rfl, rfl, rfl, hvs, hT, hBn, hM, hSw, hK⟩ := hrel
    have HT := hid hT
    have HBn := hid hBn
    have HM := hid hM
    have HSw := hid hSw
    have HK := hid hK
    have HVS := hid hvs
    clear hT hBn hM hSw hK hvs HT0 HS0 HM3 HK3
    by_cases hgo : k < acts.length ∧ k ≤ 40
    · obtain ⟨hlt, hle⟩ := hgo
      obtain ⟨b, off, cp1, ee, hKb, x0, x1, x2, x3⟩ := HS.out.act (List.getElem?_eq_getElem hlt)
      injection ee with ee1 _ ee2
      subst ee1 ee2
      obtain ⟨hi, hU1, hU2⟩ := HWF.out acts[k] (List.getElem_mem hlt)
      generalize acts[k] = x at *
      obtain ⟨kill, ai, aid, aln⟩ := x
      simp only at x0 x1 x2 x3 hi hU1 hU2
      obtain ⟨hi0, hi1⟩ := hi
      have y0 := (World.cell?_of_block (a := ⟨b, off + k * 4, none⟩) (HK.out.block b hKb)).trans x0
      have y1 := (World.cell?_of_block (a := ⟨b, off + k * 4 + 1, none⟩) (HK.out.block b hKb)).trans x1
      have y2 := (World.cell?_of_block (a := ⟨b, off + k * 4 + 2, none⟩) (HK.out.block b hKb)).trans x2
      have y3 := (World.cell?_of_block (a := ⟨b, off + k * 4 + 3, none⟩) (HK.out.block b hKb)).trans x3
      clear x0 x1 x2 x3
      have HU1 := hid hU1
      have HU2 := hid hU2
      clear hU1 hU2
      go_wp2_with fail
      have q0 : Keeps (· < wr.heap.size) wr (wr.alloc (.cells #[.bool kill, .int .u8 ai, .int .u32 aid, .int .u32 aln] 65)) := (Keeps.refl _ _).alloc (fun b hb => hb) _
      generalize hwa : wr.alloc (.cells #[.bool kill, .int .u8 ai, .int .u32 aid, .int .u32 aln] 65) = wa at *
      have HWA := hid hwa
      have HMa := hid (HM.out.keep q0 HM.out.obj.lt HM.out.cells.lt)
      have HSa := hid (HSw.out.keep (oldK_below q0))
      have HKa := hid (HK.out.trans (q0.mono fun b hb => by have := HK.out.size; rw [HWS.out] at this; omega))
      clear q0 hwa y0 y1 y2 y3
      refine (change_call HMa.out kill ai aid aln vv rows HT.out hi0 hi1 HU1.out HU2.out (by omega) (by omega)).mono ?_
      rintro e w4 ⟨rfl, ⟨μ4, hm4, ht4⟩, hk4⟩
      have hcc := change_cases kill ai aid aln rows vv HBn.out (by omega) HU1.out HU2.out
      have HM4 := hid hm4
      have HS4 := hid (HSa.out.keep hk4)
      have HK4 := hid (HKa.out.trans (hk4.mono fun b hb => ⟨by have := HKa.out.size; rw [HWS.out] at this; omega, by omega, by omega⟩))
      clear hm4 hk4
      rcases hcc with hcc | ⟨rows', hcc, hb', hsee⟩
      · rw [hcc] at ht4 ⊢
        have HT4 := hid ht4
        clear ht4 hcc
        go_wp2_with fail
        go_roundw
        case rel => exact ⟨k + 1, rows, vv, μ4, vs, B, cp, by go_num, by omega, by omega, by omega, rfl, rfl, rfl, HVS.out, HT4.out, HBn.out, HM4.out, HS4.out, HK4.out⟩
        case measure => simp [intOf]; omega
      · rw [hcc] at ht4 ⊢
        have hne : (((vv : Int) + 1) == (vv : Int)) = false := by simp; omega
        have HT4 := hid ht4
        have HB4 := hid hb'
        have HS5 := hid (HS4.out.rows vv (by rw [HVS.out]; omega) hsee)
        clear ht4 hcc hb' hsee HS4
        go_wp2_with fail
        obtain ⟨cnt, hcnt, hseen⟩ := seenT_ideal μ4.cells rows' ((vv : Int) + 1) HT4.out 16 0 [] rfl (Nat.zero_le _)
        rw [List.drop_zero, List.nil_append] at hseen
        refine (seen_any (K := oldK w4 m ws) HM4.out (fun h => h.2.1 rfl) (fun h => h.2.2 rfl) (fun b hb => hb.1) 0 ((vv : Int) + 1) 16 (by unfold Small; omega) (by omega) (by unfold U32; omega) hseen (by omega)).mono ?_
        rintro e w5 ⟨sv, rfl, ⟨μ5, hm5, hc5⟩, ho5, hv5, hv5', hk5⟩
        obtain ⟨Ba, ca, rfl⟩ := seen_own_slice ho5
        have HM5 := hid hm5
        have HC5 := hid hc5
        have HO5 := hid (show w5.ownsRow 0 105 3 (.slice Ba (seenL rows' ((vv : Int) + 1) 0).length ca) (seenL rows' ((vv : Int) + 1) 0).length ((seenL rows' ((vv : Int) + 1) 0).flatMap SeenM.cells) from ho5.1)
        have HV5 := hid (And.intro hv5 hv5')
        have HS6 := hid (HS5.out.keep hk5)
        have HK5 := hid (HK4.out.trans (hk5.mono fun b hb => ⟨by have := HK4.out.size; rw [HWS.out] at this; omega, by omega, by omega⟩))
        clear hm5 hc5 ho5 hv5 hv5' hk5 hseen HS5
        generalize hll : (seenL rows' ((vv : Int) + 1) 0).length = len at *
        have HLL := hid hll
        clear hll
        obtain ⟨i0, hi, hz0, hz1', hz2'⟩ := info_parts Try.infoSl
        go_wp2_with (at_builtin; refine wpList_append_x rfl _ _ 63 rfl 68 i0 (.slice none 0 0) 1 24 Try.underlying63 hi hz0 hz1' hz2' rfl (by decide) (.slice B (vv + 1) cp) (vv + 1) vs rfl (by have := HS6.out.own.alloc (.cells #[.slice Ba len ca] 68); rw [HVS.out] at this; exact this) ⟨w5.heap.size, 0, none⟩ 1 1 [.slice Ba len ca] rfl rfl ?_ ?_ ?_ ?_ ?_)
        · exact cell_one_new _ _ _
        · intro u hu; simp at hu; subst hu; rfl
        · unfold maxLen; omega
        · omega
        · intro v' w6 hown' hgr hfr
          obtain ⟨A', cp', hv'⟩ : ∃ A' cp', v' = .slice A' (vv + 1 + 1) cp' := by
            rcases hown'.2 with ⟨_, h⟩ | ⟨g, cap, _, h, _⟩
            · omega
            · exact ⟨_, _, h⟩
          subst hv'
          have l5 := HM5.out.obj.lt
          have l5' := HM5.out.cells.lt
          have ka : Keeps (· < w5.heap.size) w5 (w5.alloc (.cells #[.slice Ba len ca] 68)) := (Keeps.refl _ _).alloc (fun b hb => hb) _
          have kb : Keeps (fun b => b < w5.heap.size ∧ some b ≠ (Value.slice B (vv + 1) cp).ownBlock) w5 w6 :=
            (ka.mono fun b hb => hb.1).trans ⟨hgr.os, hgr.tape, hgr.output, hgr.size, fun b hb => hgr.block b (by rw [World.size_alloc]; omega) hb.2⟩
          have hM6 : MemAt w6 m ws μ5 := HM5.out.keep kb ⟨l5, fun e => HS6.out.sm e.symm⟩ ⟨l5', fun e => HS6.out.sc e.symm⟩
          have hK6 : Keeps (· < ws) w w6 := HK5.out.trans (kb.mono fun b hb => ⟨by omega, fun e => by have := HS6.out.fresh b e.symm; omega⟩)
          have hS7 : SawAt w6 ws m ws (.slice A' (vv + 1 + 1) cp') (vs ++ [.slice Ba len ca]) rows' := by
            refine ⟨by simpa [HVS.out] using hown', ?_, ?_, ?_, ?_⟩
            · rcases hfr with h | ⟨b', h, h2⟩
              · rw [h]; exact HS6.out.sm
              · rw [h]; intro e; injection e with e; omega
            · rcases hfr with h | ⟨b', h, h2⟩
              · rw [h]; exact HS6.out.sc
              · rw [h]; intro e; injection e with e; omega
            · intro b hb
              rcases hfr with h | ⟨b', h, h2⟩
              · exact HS6.out.fresh b (h ▸ hb)
              · rw [h] at hb; injection hb with hb; omega
            · intro j x hx
              rcases Nat.lt_or_ge j vs.length with hj | hj
              · rw [List.getElem?_append_left hj] at hx
                obtain ⟨g1, g2, g3⟩ := HS6.out.el j x hx
                exact ⟨own_of_keep g1 kb (fun b hb => ⟨(g1.lt b hb).2, fun e => own_type_ne HS6.out.own g1 (by decide) b e.symm hb⟩), g2, g3⟩
              · rw [List.getElem?_append_right hj] at hx
                have hj' : j = vs.length := by
                  have := (List.getElem?_eq_some_iff.1 hx).1
                  simp at this; omega
                subst hj'
                simp at hx
                subst hx
                rw [HVS.out]
                refine ⟨?_, HV5.out.1, HV5.out.2⟩
                have g1 := HO5.out
                rw [show (((vv + 1 : Nat) : Int)) = (vv : Int) + 1 by omega, HLL.out]
                exact own_of_keep g1 kb (fun b hb => ⟨(g1.lt b hb).2, fun e => own_type_ne HS6.out.own g1 (by decide) b e.symm hb⟩)
          have HM6 := hid hM6
          have HK6 := hid hK6
          have HS7 := hid hS7
          have HVS7 := hid (show (vs ++ [Value.slice Ba len ca]).length = vv + 1 + 1 by simp [HVS.out])
          clear hown' hgr hfr ka kb hM6 hK6 hS7 hi hz0 hz1' hz2' l5 l5'
          go_wp2_with fail
          go_roundw
          case rel => exact ⟨k + 1, rows', vv + 1, μ5, vs ++ [.slice Ba len ca], A', cp', by go_num, by omega, by omega, by omega, rfl, by go_num, rfl, HVS7.out, by rw [HC5.out]; exact HT4.out, by rw [show (((vv + 1 : Nat) : Int)) = (vv : Int) + 1 by omega]; exact HB4.out, HM6.out, HS7.out, HK6.out⟩
          case measure => simp [intOf]; omega
    · have hsp : k = acts.length ∨ (k < acts.length ∧ 40 < k) := by omega
      clear hgo
      rcases hsp with hsp | ⟨hsp1, hsp2⟩
      · subst hsp
        go_wp2_with fail
        go_loopw [63] (fun i wr => ∃ (j : Nat) (μ : MemS), i = .int .i64 j ∧ j ≤ vv + 1 ∧ MemAt wr m ws μ ∧ TabAt μ.cells rows ∧ SawAt wr ws m ws (.slice B (vv + 1) cp) vs rows ∧ Keeps (· < ws) w wr) (fun i _ => vv + 1 - (intOf i).toNat)
        case atStart => exact ⟨0, μ, rfl, Nat.zero_le _, HM.out, HT.out, HSw.out, HK.out⟩
        case round =>
          obtain ⟨j, μ2, rfl, hj, hM, hT2, hSw, hK⟩ := hrel
          clear HM HSw HK HT
          have HM := hid hM
          have HT := hid hT2
          have HSw := hid hSw
          have HK := hid hK
          clear hM hT2 hSw hK
          by_cases hlt : j < vv + 1
          · go_wp2_with fail
            obtain ⟨cnt, hcnt, hseen⟩ := seenT_ideal μ2.cells rows (j : Int) HT.out 16 0 [] rfl (Nat.zero_le _)
            rw [List.drop_zero, List.nil_append] at hseen
            refine (seen_any (K := oldK wr m ws) HM.out (fun h => h.2.1 rfl) (fun h => h.2.2 rfl) (fun b hb => hb.1) 0 (j : Int) 16 (by unfold Small; omega) (by omega) (by unfold U32; omega) hseen (by omega)).mono ?_
            rintro e w5 ⟨sv, rfl, ⟨μ5, hm5, hc5⟩, ho5, hv5, hv5', hk5⟩
            obtain ⟨Ba, ca, rfl⟩ := seen_own_slice ho5
            have HM5 := hid hm5
            have HC5 := hid hc5
            have HSl := hid ho5.sl
            have HS6 := hid (HSw.out.keep hk5)
            have HK5 := hid (HK.out.trans (hk5.mono fun b hb => ⟨by have := HK.out.size; rw [HWS.out] at this; omega, by omega, by omega⟩))
            clear hm5 hc5 ho5 hv5 hv5' hk5 hseen
            obtain ⟨x, hx⟩ : ∃ x, vs[j]? = some x := ⟨_, List.getElem?_eq_getElem (by rw [HVS.out]; exact hlt)⟩
            have hel := (HS6.out.el j x hx).1
            have hxs : SeenOwn w5 (fun _ => False) x (seenL rows j 0) := ⟨hel, fun _ _ h => h⟩
            obtain ⟨Bx, cx, rfl⟩ := seen_own_slice hxs
            have HXl := hid hxs.sl
            obtain ⟨g, cpg, hg, _, hcg, hcells⟩ : ∃ g cap, Value.slice B (vv + 1) cp = .slice (some ⟨g, 0, none⟩) vs.length cap ∧ vs.length ≤ cap ∧ cap ≤ maxLen ∧ ∀ i : Nat, i < vs.length → w5.cell? ⟨g, i, none⟩ = vs[i]? := by
              rcases own_slice HS6.out.own with ⟨_, h, _⟩ | h
              · rw [HVS.out] at h; omega
              · exact h
            injection hg with hg1 hg2 hg3
            subst hg1 hg3
            have cj := (hcells j (by rw [HVS.out]; exact hlt)).trans hx
            have HXX := hid hx
            unfold maxLen at hcg
            clear hcells hx hel hxs hg2
            generalize hlen : (seenL rows (j : Int) 0).length = len at *
            have HLEN := hid hlen
            clear hlen
            have i1 : (j : Int) < (vv : Int) + 1 := by omega
            go_wp2_with fail
            refine (same11_eq (l := seenL rows j 0) (by rw [HLEN.out]; exact HSl.out) (by rw [HLEN.out]; exact HXl.out)).mono ?_
            rintro e w6 ⟨rfl, n6, rfl⟩
            have k6 : Keeps (fun _ => True) w5 (w5.drewN n6) := (Keeps.refl _ _).drewN n6
            have HM6 := hid (HM5.out.keep k6 trivial trivial)
            have HS7 := hid (HS6.out.keep (k6.mono fun _ _ => trivial))
            have HK6 := hid (HK5.out.drewN n6)
            clear k6 cj
            go_wp2_with fail
            go_roundw
            case rel => exact ⟨j + 1, μ5, by go_num, by omega, HM6.out, by rw [HC5.out]; exact HT.out, HS7.out, HK6.out⟩
            case measure => simp [intOf]; omega
          · go_wp2_with fail
            exact hR'.out _ _ ⟨rfl, HWS.out ▸ HK.out⟩
      · obtain ⟨b, off, cp1, ee, hKb, x0, x1, x2, x3⟩ := HS.out.act (List.getElem?_eq_getElem hsp1)
        injection ee with ee1 _ ee2
        subst ee1 ee2
        generalize acts[k] = x at *
        obtain ⟨kill, ai, aid, aln⟩ := x
        simp only at x0 x1 x2 x3
        have y0 := (World.cell?_of_block (a := ⟨b, off + k * 4, none⟩) (HK.out.block b hKb)).trans x0
        have y1 := (World.cell?_of_block (a := ⟨b, off + k * 4 + 1, none⟩) (HK.out.block b hKb)).trans x1
        have y2 := (World.cell?_of_block (a := ⟨b, off + k * 4 + 2, none⟩) (HK.out.block b hKb)).trans x2
        have y3 := (World.cell?_of_block (a := ⟨b, off + k * 4 + 3, none⟩) (HK.out.block b hKb)).trans x3
        clear x0 x1 x2 x3
        go_wp2_with fail
        have q0 : Keeps (· < wr.heap.size) wr (wr.alloc (.cells #[.bool kill, .int .u8 ai, .int .u32 aid, .int .u32 aln] 65)) := (Keeps.refl _ _).alloc (fun b hb => hb) _
        generalize hwa : wr.alloc (.cells #[.bool kill, .int .u8 ai, .int .u32 aid, .int .u32 aln] 65) = wa at *
        have HWA := hid hwa
        have HMa := hid (HM.out.keep q0 HM.out.obj.lt HM.out.cells.lt)
        have HSa := hid (HSw.out.keep (oldK_below q0))
        have HKa := hid (HK.out.trans (q0.mono fun b hb => by have := HK.out.size; rw [HWS.out] at this; omega))
        clear q0 hwa y0 y1 y2 y3 HM HSw HK
        have HM := HMa
        have HSw := HSa
        have HK := HKa
        clear HMa HSa HKa
        go_loopw [63] (fun i wr => ∃ (j : Nat) (μ : MemS), i = .int .i64 j ∧ j ≤ vv + 1 ∧ MemAt wr m ws μ ∧ TabAt μ.cells rows ∧ SawAt wr ws m ws (.slice B (vv + 1) cp) vs rows ∧ Keeps (· < ws) w wr) (fun i _ => vv + 1 - (intOf i).toNat)
        case atStart => exact ⟨0, μ, rfl, Nat.zero_le _, HM.out, HT.out, HSw.out, HK.out⟩
        case round =>
          obtain ⟨j, μ2, rfl, hj, hM, hT2, hSw, hK⟩ := hrel
          clear HM HSw HK HT
          have HM := hid hM
          have HT := hid hT2
          have HSw := hid hSw
          have HK := hid hK
          clear hM hT2 hSw hK
          by_cases hlt : j < vv + 1
          · go_wp2_with fail
            obtain ⟨cnt, hcnt, hseen⟩ := seenT_ideal μ2.cells rows (j : Int) HT.out 16 0 [] rfl (Nat.zero_le _)
            rw [List.drop_zero, List.nil_append] at hseen
            refine (seen_any (K := oldK wr m ws) HM.out (fun h => h.2.1 rfl) (fun h => h.2.2 rfl) (fun b hb => hb.1) 0 (j : Int) 16 (by unfold Small; omega) (by omega) (by unfold U32; omega) hseen (by omega)).mono ?_
            rintro e w5 ⟨sv, rfl, ⟨μ5, hm5, hc5⟩, ho5, hv5, hv5', hk5⟩
            obtain ⟨Ba, ca, rfl⟩ := seen_own_slice ho5
            have HM5 := hid hm5
            have HC5 := hid hc5
            have HSl := hid ho5.sl
            have HS6 := hid (HSw.out.keep hk5)
            have HK5 := hid (HK.out.trans (hk5.mono fun b hb => ⟨by have := HK.out.size; rw [HWS.out] at this; omega, by omega, by omega⟩))
            clear hm5 hc5 ho5 hv5 hv5' hk5 hseen
            obtain ⟨x, hx⟩ : ∃ x, vs[j]? = some x := ⟨_, List.getElem?_eq_getElem (by rw [HVS.out]; exact hlt)⟩
            have hel := (HS6.out.el j x hx).1
            have hxs : SeenOwn w5 (fun _ => False) x (seenL rows j 0) := ⟨hel, fun _ _ h => h⟩
            obtain ⟨Bx, cx, rfl⟩ := seen_own_slice hxs
            have HXl := hid hxs.sl
            obtain ⟨g, cpg, hg, _, hcg, hcells⟩ : ∃ g cap, Value.slice B (vv + 1) cp = .slice (some ⟨g, 0, none⟩) vs.length cap ∧ vs.length ≤ cap ∧ cap ≤ maxLen ∧ ∀ i : Nat, i < vs.length → w5.cell? ⟨g, i, none⟩ = vs[i]? := by
              rcases own_slice HS6.out.own with ⟨_, h, _⟩ | h
              · rw [HVS.out] at h; omega
              · exact h
            injection hg with hg1 hg2 hg3
            subst hg1 hg3
            have cj := (hcells j (by rw [HVS.out]; exact hlt)).trans hx
            have HXX := hid hx
            unfold maxLen at hcg
            clear hcells hx hel hxs hg2
            generalize hlen : (seenL rows (j : Int) 0).length = len at *
            have HLEN := hid hlen
            clear hlen
            have i1 : (j : Int) < (vv : Int) + 1 := by omega
            go_wp2_with fail
            refine (same11_eq (l := seenL rows j 0) (by rw [HLEN.out]; exact HSl.out) (by rw [HLEN.out]; exact HXl.out)).mono ?_
            rintro e w6 ⟨rfl, n6, rfl⟩
            have k6 : Keeps (fun _ => True) w5 (w5.drewN n6) := (Keeps.refl _ _).drewN n6
            have HM6 := hid (HM5.out.keep k6 trivial trivial)
            have HS7 := hid (HS6.out.keep (k6.mono fun _ _ => trivial))
            have HK6 := hid (HK5.out.drewN n6)
            clear k6 cj
            go_wp2_with fail
            go_roundw
            case rel => exact ⟨j + 1, μ5, by go_num, by omega, HM6.out, by rw [HC5.out]; exact HT.out, HS7.out, HK6.out⟩
            case measure => simp [intOf]; omega
          · go_wp2_with fail
            exact hR'.out _ _ ⟨rfl, HWS.out ▸ HK.out⟩
end Go.Proofs.Ytjnaibmnpajfdaa
