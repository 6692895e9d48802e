/- Layer 3's statements: the closure program$1. -/
import Derived.Test.YtjnaibmnpajfdaaInsA
namespace Go.Proofs.Ytjnaibmnpajfdaa
open Go.RowKit

theorem flat3 : ∀ (l : List InsM) (k : Nat) (x : InsM), l[k]? = some x →
    (l.flatMap InsM.cells)[k * 3]? = some (.int .i64 x.op) ∧ (l.flatMap InsM.cells)[k * 3 + 1]? = some (.int .i64 x.a) ∧ (l.flatMap InsM.cells)[k * 3 + 2]? = some (.int .u32 x.v)
  | y :: l, 0, x, h => by
    simp at h; subst h; exact ⟨rfl, rfl, rfl⟩
  | y :: l, k + 1, x, h => by
    have ih := flat3 l k x (by simpa using h)
    have e1 : (k + 1) * 3 = k * 3 + 3 := by omega
    rw [e1]
    exact ih

theorem prog_cells {w : World} {K : Nat → Prop} {v : Value} {l : List InsM} (h : SlAt w K 3 v l.length (l.flatMap InsM.cells)) :
    ∃ A cap, v = .slice A l.length cap ∧ l.length ≤ cap ∧ cap ≤ maxLen ∧ ∀ k x, l[k]? = some x → ∃ b off, A = some ⟨b, off, none⟩ ∧ K b ∧
      w.cell? ⟨b, off + k * 3, none⟩ = some (.int .i64 x.op) ∧ w.cell? ⟨b, off + k * 3 + 1, none⟩ = some (.int .i64 x.a) ∧ w.cell? ⟨b, off + k * 3 + 2, none⟩ = some (.int .u32 x.v) := by
  obtain ⟨A, cap, h1, h2, h3, h4, h5⟩ := h
  refine ⟨A, cap, h1, h2, h3, fun k x hk => ?_⟩
  have hlt : k < l.length := (List.getElem?_eq_some_iff.1 hk).1
  obtain ⟨b, off, e, hb, hc⟩ := h5 (by omega)
  obtain ⟨f0, f1, f2⟩ := flat3 l k x hk
  exact ⟨b, off, e, hb, hc _ _ f0, hc _ _ f1, hc _ _ f2⟩

set_option maxRecDepth 100000 in
set_option maxHeartbeats 1000000 in
theorem prog_call {w : World} {K : Nat → Prop} {r m c : Nat} {s : St} (h : RM w K r m c s) (lb : Nat) (v : Value) (l : List InsM) (hwf : ∀ x ∈ l, x.wf)
    (hbox : Blk w lb [v]) (_hlb : K lb) (hsl : SlAt w K 3 v l.length (l.flatMap InsM.cells)) :
    Calls Try.prog 53 #[.pointer (some ⟨r, 0, none⟩), .pointer (some ⟨lb, 0, none⟩)] w fun e w' =>
      e = .returned (.tuple #[]) ∧ RM w' K r m c ((progT l 0 0).exec s).2 ∧ Keeps K w w' := by
  obtain ⟨A, cap, rfl, hcap, hmax, hcells⟩ := prog_cells hsl
  unfold maxLen at hmax
  have cb := hbox.cell 0
  simp only [List.getElem?_cons_zero] at cb
  have HC := hid hcells
  have HW := hid hwf
  have H := hid h
  clear hcells h hwf hsl hbox
  refine calls_hide fun R' hR' => ?_
  go_enter Try.func53, Try.ntmps53
  go_wp2_with fail
  go_loopw [3, 8] (fun last i wr => ∃ (k : Nat) (lv : Int) (s' : St), i = .int .i64 k ∧ k ≤ l.length ∧ last = .int .u32 lv ∧ U32 lv ∧ RM wr K r m c s' ∧ Keeps K w wr ∧
      (progT (l.drop k) k lv).exec s' = (progT l 0 0).exec s) (fun _ i _ => l.length - (intOf i).toNat)
  case atStart => exact ⟨0, 0, s, rfl, Nat.zero_le _, rfl, by unfold U32; omega, H.out, Keeps.refl _ _, by simp⟩
  case round =>
    obtain ⟨k, lv, s', rfl, hk, rfl, ⟨hl0, hl1⟩, hRM, hKp, hex⟩ := hrel
    by_cases hlt : k < l.length
    · obtain ⟨b, off, rfl, hKb, x0, x1, x2⟩ := HC.out k l[k] (List.getElem?_eq_getElem hlt)
      have hxw := HW.out l[k] (List.getElem_mem hlt)
      have hdrop : l.drop k = l[k] :: l.drop (k + 1) := List.drop_eq_getElem_cons hlt
      rw [hdrop] at hex
      generalize l[k] = x at *
      obtain ⟨op, a, vv⟩ := x
      simp only at x0 x1 x2
      obtain ⟨_, _, hv0, hv1⟩ := hxw
      have y0 := (World.cell?_of_block (a := ⟨b, off + k * 3, none⟩) (hKp.block b hKb)).trans x0
      have y1 := (World.cell?_of_block (a := ⟨b, off + k * 3 + 1, none⟩) (hKp.block b hKb)).trans x1
      have y2 := (World.cell?_of_block (a := ⟨b, off + k * 3 + 2, none⟩) (hKp.block b hKb)).trans x2
      have HEX := hid hex
      have HRM := hid hRM
      have HKp := hid hKp
      have HD := hid hdrop
      clear hex hRM hKp hdrop x0 x1 x2
      go_wp2_with fail
      have hRM1 := HRM.out.more (.cells #[.int .i64 op, .int .i64 a, .int .u32 vv] 38)
      refine (step_off hRM1).mono ?_
      rintro e w1 ⟨rfl, rfl⟩
      have HR1 := hid hRM1
      clear hRM1
      by_cases hst : s'.isOff = true ∨ 100 < k ∨ (op = 4 ∧ lv % 2 = 1)
      · have hfin : ((progT l 0 0).exec s).2 = s' := by rw [← HEX.out, progT_stop hst]
        have HF := hid hfin
        clear hfin
        have hex : RM (wr.alloc (.cells #[.int .i64 op, .int .i64 a, .int .u32 vv] 38)) K r m c ((progT l 0 0).exec s).2 ∧ Keeps K w (wr.alloc (.cells #[.int .i64 op, .int .i64 a, .int .u32 vv] 38)) := by
          rw [HF.out]; exact ⟨HRM.out.alloc _, HKp.out.trans ((Keeps.refl _ _).alloc HRM.out.lt _)⟩
        have HE := hid hex
        clear hex
        rcases hst with ho | hi | ⟨h4, h5⟩
        · rw [ho]
          go_wp2_with fail
          go_end0
          exact hR'.out _ _ ⟨rfl, HE.out⟩
        · cases ho : s'.isOff
          all_goals
            go_wp2_with fail
            go_end0
            exact hR'.out _ _ ⟨rfl, HE.out⟩
        · subst h4
          have hb : (lv % 2 == 1) = true := by simpa using h5
          cases ho : s'.isOff
          · by_cases hi : 100 < k
            all_goals
              go_wp2_with fail
              go_end0
              exact hR'.out _ _ ⟨rfl, HE.out⟩
          · go_wp2_with fail
            go_end0
            exact hR'.out _ _ ⟨rfl, HE.out⟩
      · have hno := hst
        have ho : s'.isOff = false := by cases h : s'.isOff; rfl; exact absurd (Or.inl h) hst
        have hi : ¬ 100 < k := fun h => hst (Or.inr (Or.inl h))
        rw [ho]
        have HN := hid hno
        have HO := hid ho
        clear hno hst ho
        have hKw : Keeps K w (wr.alloc (.cells #[.int .i64 op, .int .i64 a, .int .u32 vv] 38)) := HKp.out.trans ((Keeps.refl _ _).alloc HRM.out.lt _)
        have HKW := hid hKw
        clear hKw
        have hlen : (l.drop k).length = l.length - k := List.length_drop
        have HLV := hid (show U32 lv from ⟨hl0, hl1⟩)
        have HVV := hid (show U32 vv from ⟨hv0, hv1⟩)
        clear hlen
        by_cases h02 : op = 0 ∨ op = 2
        · have hstep := (progT_load (x := ⟨op, a, vv⟩) (xs := l.drop (k + 1)) HN.out h02).symm.trans HEX.out
          have HS := hid hstep
          clear hstep
          rcases h02 with rfl | rfl
          all_goals
            go_wp2_with fail
            refine (addr_any _ a vv lv _ HVV.out HLV.out).mono ?_
            rintro e w2 ⟨rfl, hk2⟩
            have HR2 := hid (HR1.out.below hk2)
            have HK2 := hid (HKW.out.trans (hk2.mono (HRM.out.alloc _).lt))
            clear hk2
            generalize had : addrM _ lv = ad at *
            go_wp2_with fail
            refine (step_load HR2.out ad).mono ?_
            rintro e w3 ⟨rfl, hRM3, hk3⟩
            have hu := hRM3
            have HU := hid (HR2.out.load_u32 ad)
            have HR3 := hid (hRM3.mono (fun b hb => Or.inl hb) : RM w3 K r m c _)
            have HK3 := hid (HK2.out.trans (hk3.mono fun b hb => Or.inl hb))
            clear hRM3 hk3 hu
            go_wp2_with fail
            go_roundw
            case rel => exact ⟨k + 1, _, _, by go_num, by omega, rfl, HU.out, HR3.out, HK3.out, HS.out⟩
            case measure => simp [intOf]; omega
        · by_cases h1 : op = 1
          · have hstep := (progT_store (x := ⟨op, a, vv⟩) (xs := l.drop (k + 1)) HN.out h1).symm.trans HEX.out
            have HS := hid hstep
            clear hstep h02
            subst h1
            go_wp2_with fail
            refine (step_store HR1.out a vv HVV.out).mono ?_
            rintro e w3 ⟨rfl, hRM3, hk3⟩
            have HR3 := hid (hRM3.mono (fun b hb => Or.inl hb) : RM w3 K r m c _)
            have HK3 := hid (HKW.out.trans (hk3.mono fun b hb => Or.inl hb))
            clear hRM3 hk3
            go_wp2_with fail
            go_roundw
            case rel => exact ⟨k + 1, _, _, by go_num, by omega, rfl, HLV.out, HR3.out, HK3.out, HS.out⟩
            case measure => simp [intOf]; omega
          · by_cases h3 : op = 3
            · have hstep := (progT_store3 (x := ⟨op, a, vv⟩) (xs := l.drop (k + 1)) HN.out h3).symm.trans HEX.out
              have HS := hid hstep
              clear hstep h02 h1
              subst h3
              go_wp2_with fail
              refine (step_store HR1.out a _ ?_).mono ?_
              · unfold U32; omega
              rintro e w3 ⟨rfl, hRM3, hk3⟩
              have HR3 := hid (hRM3.mono (fun b hb => Or.inl hb) : RM w3 K r m c _)
              have HK3 := hid (HKW.out.trans (hk3.mono fun b hb => Or.inl hb))
              clear hRM3 hk3
              go_wp2_with fail
              go_roundw
              case rel => exact ⟨k + 1, _, _, by go_num, by omega, rfl, HLV.out, HR3.out, HK3.out, HS.out⟩
              case measure => simp [intOf]; omega
            · have hstep := (progT_skip (x := ⟨op, a, vv⟩) (xs := l.drop (k + 1)) HN.out (fun h => h02 (Or.inl h)) (fun h => h02 (Or.inr h)) h1 h3).symm.trans HEX.out
              have HS := hid hstep
              have b0 : (op == 0) = false := by simpa using fun h => h02 (Or.inl h)
              have b2 : (op == 2) = false := by simpa using fun h => h02 (Or.inr h)
              have b1 : (op == 1) = false := by simpa using h1
              have b3 : (op == 3) = false := by simpa using h3
              clear hstep h02 h1 h3
              by_cases h4 : op = 4
              · subst h4
                have hodd : (lv % 2 == 1) = false := by
                  have : ¬ (lv % 2 = 1) := fun h => HN.out (Or.inr (Or.inr ⟨rfl, h⟩))
                  simpa using this
                clear b0 b1 b2 b3
                go_wp2_with fail
                go_roundw
                case rel => exact ⟨k + 1, _, _, by go_num, by omega, rfl, HLV.out, HRM.out.alloc _, HKW.out, HS.out⟩
                case measure => simp [intOf]; omega
              · have b4 : (op == 4) = false := by simpa using h4
                clear h4
                go_wp2_with fail
                go_roundw
                case rel => exact ⟨k + 1, _, _, by go_num, by omega, rfl, HLV.out, HRM.out.alloc _, HKW.out, HS.out⟩
                case measure => simp [intOf]; omega
    · have hkl : k = l.length := by omega
      subst hkl
      rw [List.drop_length] at hex
      have hfin : ((progT l 0 0).exec s).2 = s' := by rw [← hex]; rfl
      have HF := hid hfin
      have HRM := hid hRM
      have HKp := hid hKp
      clear hex hfin hRM hKp
      go_wp2_with fail
      go_end0
      exact hR'.out _ _ ⟨rfl, by rw [HF.out]; exact HRM.out, HKp.out⟩
end Go.Proofs.Ytjnaibmnpajfdaa
