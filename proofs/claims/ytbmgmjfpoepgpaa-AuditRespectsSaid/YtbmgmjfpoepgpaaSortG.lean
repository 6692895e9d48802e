/- Contracts: slices.stableCmpFunc, SortStableFunc at a row of the numbers from 0 on. -/
import Derived.Test.YtbmgmjfpoepgpaaSortF
namespace Go.Proofs.Ytbmgmjfpoepgpaa
open Go.RowKit

/-- two sorted blocks that follow each other are merged -/
theorem merge_blocks {w : World} {K : Nat → Prop} {b n cap a m e N lb : Nat} {key : Nat → Int} {P S : List Nat} (hR : Row w b (P ++ srt key a m ++ srt key m e ++ S)) (hK : ¬ K b) (hC : CmpOK K w N key lb)
    (hn : n = (P ++ srt key a m ++ srt key m e ++ S).length) (ha : a = P.length) (h1 : a < m) (h2 : m < e) (heN : e ≤ N) (hbig : n ≤ 1099511627776) (hcap : n ≤ cap) (hcb : cap ≤ maxLen) :
    Calls Try.prog 57 #[.slice (some ⟨b, 0, none⟩) n cap, .int .i64 (a : Int), .int .i64 (m : Int), .int .i64 (e : Int), .func (.func 35) #[] #[.pointer (some ⟨lb, 0, none⟩)]] w fun en w' =>
      en = .returned (.tuple #[]) ∧ Row w' b (P ++ srt key a e ++ S) ∧ Keeps K w w' := by
  have l1 := srt_length (key := key) a m
  have l2 := srt_length (key := key) m e
  refine (sym_merge (key := key) (e - a) w a m e P (srt key a m) (srt key m e) S ⟨hR, hK, hn, ha, by omega, by omega, srt_sorted a m, srt_sorted m e, fun x hx y hy => ?_, fun x hx => ?_, fun x hx => ?_, hbig, hcap, hcb⟩ hC (by omega) (by omega) (by omega)).mono ?_
  · have := (mem_srt.1 hx).2; have := (mem_srt.1 hy).1; omega
  · have := (mem_srt.1 hx).2; omega
  · have := (mem_srt.1 hx).2; omega
  · rintro en w' ⟨rfl, Y, hr, hp, hs, hk⟩
    rw [srt_merge (by omega) (by omega) hp hs] at hr
    exact ⟨rfl, hr, hk⟩

set_option maxRecDepth 100000 in
set_option maxHeartbeats 4000000 in
theorem stable_ok {w : World} {K : Nat → Prop} {b n cap lb : Nat} {key : Nat → Int} (hR : Row w b (List.range' 0 n)) (hK : ¬ K b) (hC : CmpOK K w n key lb) (hbig : n ≤ 1000000) (hcap : n ≤ cap) (hcb : cap ≤ maxLen) :
    Calls Try.prog 49 #[.slice (some ⟨b, 0, none⟩) n cap, .int .i64 (n : Int), .func (.func 35) #[] #[.pointer (some ⟨lb, 0, none⟩)]] w fun en w' =>
      en = .returned (.tuple #[]) ∧ Row w' b (srt key 0 n) ∧ Keeps K w w' := by
  have hcb' := hid hcb
  unfold maxLen at hcb
  have HR := hid hR
  clear hR
  refine calls_hide fun R' hR' => ?_
  go_enter Try.func49, Try.ntmps49
  go_wp2_with fail
  go_loopw [7, 8] (fun va vb wr => ∃ (a : Nat), va = .int .i64 (a : Int) ∧ vb = .int .i64 ((a + 20 : Nat) : Int) ∧ a ≤ n ∧ Hid (∃ D, Pre key 20 a D ∧ Row wr b (D ++ List.range' a (n - a)) ∧ Keeps K w wr)) (fun a _ _ => n - (intOf a).toNat)
  case atStart => exact ⟨0, rfl, rfl, Nat.zero_le _, hid ⟨[], .nil, HR.out, Keeps.refl _ _⟩⟩
  case round =>
    obtain ⟨a, rfl, rfl, han, HD⟩ := hrel
    obtain ⟨a2, ha2⟩ : ∃ a2, a2 = a + 20 := ⟨_, rfl⟩
    rw [← ha2]
    by_cases hlt : a2 ≤ n
    · have z0 : (a2 : Int) ≤ (n : Int) := by omega
      have HA2 := hid ha2
      clear ha2
      go_wp2_with fail
      have ha2 := HA2.out
      obtain ⟨D, hD, hr, hk⟩ := HD.out
      have hl := hD.length
      refine (insertion_ok (w := wr) (K := K) (b := b) (n := n) (cap := cap) (a := a) (e := a2) (N := n) (P := D) (S := List.range' a2 (n - a2)) (key := key) (lb := lb) ?_ hK (hC.keep hk) (by simp; omega) (by omega) (by omega) hlt (by omega) hcap hcb'.out).mono ?_
      · have e1 : n - a = (a2 - a) + (n - a2) := by omega
        rw [e1, ← List.range'_append_1, ← List.append_assoc] at hr
        rw [show a + (a2 - a) = a2 from by omega] at hr
        exact hr
      · rintro en W1 ⟨rfl, hr1, hk1⟩
        have HN := hid (show ∃ D, Pre key 20 a2 D ∧ Row W1 b (D ++ List.range' a2 (n - a2)) ∧ Keeps K w W1 from ⟨D ++ srt key a a2, by rw [ha2]; exact .snoc hD, hr1, hk.trans hk1⟩)
        have HA := hid ha2
        clear HA2
        obtain ⟨a3, ha3⟩ : ∃ a3, a3 = a2 + 20 := ⟨_, rfl⟩
        have z1 : (a2 : Int) + 20 = (a3 : Int) := by omega
        have HA3 := hid ha3
        clear ha3
        clear hD hr hk hl hr1 hk1 HD ha2
        go_wp2_with fail
        go_roundw
        case rel => exact ⟨a2, rfl, by rw [← HA3.out], hlt, HN⟩
        case measure => have := HA.out; simp [intOf]; omega
    · have z0 : ¬ (a2 : Int) ≤ (n : Int) := by omega
      have HA2 := hid ha2
      clear ha2
      go_wp2_with fail
      have ha2 := HA2.out
      obtain ⟨D, hD, hr, hk⟩ := HD.out
      have hl := hD.length
      refine (insertion_ok (w := wr) (K := K) (b := b) (n := n) (cap := cap) (a := a) (e := n) (N := n) (P := D) (S := []) (key := key) (lb := lb) (by rw [List.append_nil]; exact hr) hK (hC.keep hk) (by simp; omega) (by omega) han (Nat.le_refl _) (by omega) hcap hcb'.out).mono ?_
      rintro en W1 ⟨rfl, hr1, hk1⟩
      rw [List.append_nil] at hr1
      have HN := hid (show ∃ l, Blocks key 20 n 0 l ∧ Row W1 b l ∧ Keeps K w W1 from ⟨_, hD.blocks han (.last han (by omega)), hr1, hk.trans hk1⟩)
      clear hD hr hk hl hr1 hk1 HD ha2
      go_wp2_with fail
      go_loopw [6] (fun vB wr => ∃ (B : Nat), vB = .int .i64 (B : Int) ∧ 0 < B ∧ B ≤ 2000000 ∧ Hid (∃ l, Blocks key B n 0 l ∧ Row wr b l ∧ Keeps K w wr)) (fun B _ => n - (intOf B).toNat)
      case atStart => exact ⟨20, rfl, by omega, by omega, HN⟩
      case round =>
        clear HN
        obtain ⟨B, rfl, hB, hB2, HB⟩ := hrel
        by_cases hBn : B < n
        · have z1 : (B : Int) < (n : Int) := by omega
          obtain ⟨B2, hBB⟩ : ∃ B2, B2 = 2 * B := ⟨_, rfl⟩
          have z2 : (2 : Int) * (B : Int) = (B2 : Int) := by omega
          have z3 : (B : Int) * 2 = (B2 : Int) := by omega
          have HBB := hid hBB
          have z4 : B2 ≤ 2000000 := by omega
          clear hBB
          go_wp2_with fail
          go_loopw [7, 8] (fun va vb wr => ∃ (a : Nat), va = .int .i64 (a : Int) ∧ vb = .int .i64 ((a + B2 : Nat) : Int) ∧ a ≤ n ∧ Hid (∃ D l, Pre key B2 a D ∧ Blocks key B n a l ∧ Row wr b (D ++ l) ∧ Keeps K w wr)) (fun a _ _ => n - (intOf a).toNat)
          case atStart =>
            obtain ⟨l, h1, h2, h3⟩ := HB.out
            exact ⟨0, rfl, by go_num, Nat.zero_le _, hid ⟨[], l, .nil, h1, h2, h3⟩⟩
          case round =>
            obtain ⟨a, rfl, rfl, han, HD⟩ := hrel
            obtain ⟨a2, ha2⟩ : ∃ a2, a2 = a + B2 := ⟨_, rfl⟩
            obtain ⟨m, hm⟩ : ∃ m, m = a + B := ⟨_, rfl⟩
            have y1 : (a : Int) + (B : Int) = (m : Int) := by omega
            have HA := hid (And.intro ha2 hm)
            rw [← ha2]
            by_cases hlt : a2 ≤ n
            · have y2 : (a2 : Int) ≤ (n : Int) := by omega
              clear ha2 hm
              go_wp2_with fail
              obtain ⟨D, l, hD, hl, hr, hk⟩ := HD.out
              obtain ⟨ha2, hm⟩ := HA.out
              have hBB := HBB.out
              have hdl := hD.length
              obtain ⟨t, hlt', hbt⟩ := hl.two hB (by omega)
              have e2 : a + 2 * B = a2 := by omega
              rw [e2, ← hm] at hlt'
              rw [e2] at hbt
              subst hlt'
              have htl := hbt.length
              refine (merge_blocks (w := wr) (K := K) (b := b) (n := n) (cap := cap) (a := a) (m := m) (e := a2) (N := n) (P := D) (S := t) (key := key) (lb := lb) (by simpa [List.append_assoc] using hr) hK (hC.keep hk) (by simp [srt_length]; omega) (by omega) (by omega) (by omega) hlt (by omega) hcap hcb'.out).mono ?_
              rintro en W1 ⟨rfl, hr1, hk1⟩
              have HN := hid (show ∃ D l, Pre key B2 a2 D ∧ Blocks key B n a2 l ∧ Row W1 b (D ++ l) ∧ Keeps K w W1 from ⟨D ++ srt key a a2, t, by rw [ha2]; exact .snoc hD, hbt, hr1, hk.trans hk1⟩)
              obtain ⟨a3, ha3⟩ : ∃ a3, a3 = a2 + B2 := ⟨_, rfl⟩
              have z5 : (a2 : Int) + (B2 : Int) = (a3 : Int) := by omega
              have HA3 := hid ha3
              clear ha3
              clear hD hr hk hl hr1 hk1 HD ha2 hm hBB hdl e2 hbt htl
              go_wp2_with fail
              go_roundw
              case rel => exact ⟨a2, rfl, by rw [← HA3.out], hlt, HN⟩
              case measure => have := HA.out; have := HBB.out; simp [intOf]; omega
            · have y2 : ¬ (a2 : Int) ≤ (n : Int) := by omega
              by_cases hmn : m < n
              · have y3 : (m : Int) < (n : Int) := by omega
                clear ha2 hm
                go_wp2_with fail
                obtain ⟨D, l, hD, hl, hr, hk⟩ := HD.out
                obtain ⟨ha2, hm⟩ := HA.out
                have hBB := HBB.out
                have hdl := hD.length
                have e2 := hl.rest (by omega) (by omega)
                rw [← hm] at e2
                subst e2
                refine (merge_blocks (w := wr) (K := K) (b := b) (n := n) (cap := cap) (a := a) (m := m) (e := n) (N := n) (P := D) (S := []) (key := key) (lb := lb) (by simpa [List.append_assoc] using hr) hK (hC.keep hk) (by simp [srt_length]; omega) (by omega) (by omega) (by omega) (Nat.le_refl _) (by omega) hcap hcb'.out).mono ?_
                rintro en W1 ⟨rfl, hr1, hk1⟩
                rw [List.append_nil] at hr1
                have HN := hid (show ∃ l, Blocks key B2 n 0 l ∧ Row W1 b l ∧ Keeps K w W1 from ⟨_, hD.blocks han (.last han (by omega)), hr1, hk.trans hk1⟩)
                clear hD hr hk hl hr1 hk1 HD ha2 hm hBB hdl
                go_wp2_with fail
                go_roundw
                case rel => exact ⟨B2, by first | rfl | go_num, by have := HBB.out; omega, z4, HN⟩
                case measure => have := HBB.out; simp [intOf]; omega
              · have y3 : ¬ (m : Int) < (n : Int) := by omega
                have HN := hid (show ∃ l, Blocks key B2 n 0 l ∧ Row wr b l ∧ Keeps K w wr from by
                  obtain ⟨D, l, hD, hl, hr, hk⟩ := HD.out
                  have hBB := HBB.out
                  rw [hl.one hB (by omega)] at hr
                  exact ⟨_, hD.blocks han (.last han (by omega)), hr, hk⟩)
                clear ha2 hm HD
                go_wp2_with fail
                go_roundw
                case rel => exact ⟨B2, by first | rfl | go_num, by have := HBB.out; omega, z4, HN⟩
                case measure => have := HBB.out; simp [intOf]; omega
        · have z1 : ¬ (B : Int) < (n : Int) := by omega
          go_wp2_with fail
          go_end0
          obtain ⟨l, h1, h2, h3⟩ := HB.out
          rw [h1.one hB (by omega)] at h2
          exact hR'.out _ _ ⟨rfl, h2, h3⟩

set_option maxRecDepth 100000 in
set_option maxHeartbeats 400000 in
theorem sort_stable {w : World} {K : Nat → Prop} {b n cap lb : Nat} {key : Nat → Int} (hR : Row w b (List.range' 0 n)) (hK : ¬ K b) (hC : CmpOK K w n key lb) (hbig : n ≤ 1000000) (hcap : n ≤ cap) (hcb : cap ≤ maxLen) :
    Calls Try.prog 34 #[.slice (some ⟨b, 0, none⟩) n cap, .func (.func 35) #[] #[.pointer (some ⟨lb, 0, none⟩)]] w fun en w' =>
      en = .returned (.tuple #[]) ∧ Row w' b (srt key 0 n) ∧ Keeps K w w' := by
  have HH := hid (And.intro hR (And.intro hK (And.intro hC (And.intro hbig (And.intro hcap hcb)))))
  clear hR hC
  unfold maxLen at hcb
  refine calls_hide fun R' hR' => ?_
  go_enter Try.func34, Try.ntmps34
  go_wp2_with fail
  obtain ⟨h1, h2, h3, h4, h5, h6⟩ := HH.out
  refine (stable_ok h1 h2 h3 h4 h5 h6).mono ?_
  rintro e w' ⟨rfl, hr⟩
  clear h1 h3
  go_wp2_with fail
  go_end0
  exact hR'.out _ _ ⟨rfl, hr⟩
end Go.Proofs.Ytbmgmjfpoepgpaa
