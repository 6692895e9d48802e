/- The document's layer 4: at, the walk. -/
import Derived.Test.YtbepgbkbpkaodaaDoorRefV
namespace Go.Proofs.YtbepgbkbpkaodaaDoor
open Go.RowKit

theorem tupleV (a b : Value) : Value.tuple #[a, b] = Value.tuple #[a, b] := rfl
set_option maxRecDepth 100000 in
set_option maxHeartbeats 4000000 in
theorem ref4_at (s : ByteArray) (hs : s.size ≤ 17592186044416) (i : Nat) (hi : i < s.size) (w : World) : Calls Tryd.prog 29 #[.string s, .int .i64 (i : Int)] w fun e w' => e = .returned (.tuple #[.int .i32 (atP s i).1, .int .i64 (atP s i).2]) ∧ Keeps (· < w.heap.size) w w' := by
  have hiI : (i : Int) < (s.size : Int) := by omega
  have hb := byteI_bnd s i
  have hba := byteI_at s i hi
  have h1P := atP_one s i
  have hnP := atP_none s i hi
  generalize hat : atP s i = at' at *
  obtain ⟨rr, rk⟩ := at'
  dsimp only
  generalize hz : s[i].toNat = z at *
  have H1P := hid h1P
  have HnP := hid hnP
  have Hat := hid hat
  clear h1P hnP hat
  refine calls_hide fun R' hR' => ?_
  go_enter Tryd.func29, Tryd.ntmps29
  by_cases g1 : z < 128
  · have g1I : (z : Int) < 128 := by omega
    have he := H1P.out (by omega)
    injection he with e1 e2
    rw [hba] at e1
    subst e1 e2
    go_wp2_with fail
    exact hR'.out _ _ ⟨rfl, Keeps.refl _ _⟩
  have g1I : ¬ (z : Int) < 128 := by omega
  by_cases g2 : z < 192 ∨ 248 ≤ z
  · have hk : leadK (byteI s i) = 0 := by
      unfold leadK
      repeat' split
      all_goals omega
    have he := HnP.out (by omega) (Or.inl hk)
    injection he with e1 e2
    subst e1 e2
    rcases g2 with g2 | g2
    · have g2I : ¬ 192 ≤ (z : Int) := by omega
      have g3I : ¬ 224 ≤ (z : Int) := by omega
      have g4I : ¬ 240 ≤ (z : Int) := by omega
      go_wp2_with fail
      exact hR'.out _ _ ⟨rfl, Keeps.refl _ _⟩
    · have g2I : ¬ (z : Int) < 224 := by omega
      have g3I : ¬ (z : Int) < 240 := by omega
      have g4I : ¬ (z : Int) < 248 := by omega
      have g5I : 192 ≤ (z : Int) := by omega
      have g6I : 224 ≤ (z : Int) := by omega
      have g7I : 240 ≤ (z : Int) := by omega
      go_wp2_with fail
      exact hR'.out _ _ ⟨rfl, Keeps.refl _ _⟩
  rcases (by omega : (192 ≤ z ∧ z < 224) ∨ (224 ≤ z ∧ z < 240) ∨ (240 ≤ z ∧ z < 248)) with g3 | g3 | g3
  · have a1 : 192 ≤ (z : Int) := by omega
    have a2 : (z : Int) < 224 := by omega
    have a3 : ¬ 224 ≤ (z : Int) := by omega
    have a4 : ¬ 240 ≤ (z : Int) := by omega
    have hk : leadK (byteI s i) = 2 := by
      unfold leadK
      repeat' split
      all_goals omega
    have hln : leadN (byteI s i) = (z : Int) - 192 := by
      unfold leadN
      repeat' split
      all_goals omega
    have hzb : (z : Int) ≤ 255 := by omega
    have h192 : 192 ≤ byteI s i ∧ byteI s i < 248 := by omega
    have h128 : 128 ≤ byteI s i := by omega
    clear g1 g2 g3 hb hba
    by_cases hsz : s.size - i < 2
    · have hszI : (s.size : Int) - (i : Int) < 2 := by omega
      have he := HnP.out h128 (Or.inr (Or.inl (by rw [hk]; omega)))
      injection he with e1 e2
      subst e1 e2
      clear hk hln h192 h128 hsz
      go_wp2_with fail
      exact hR'.out _ _ ⟨rfl, Keeps.refl _ _⟩
    have hszI : ¬ (s.size : Int) - (i : Int) < 2 := by omega
    have hsz2 : i + 2 ≤ s.size := by omega
    have Hk := hid hk
    have Hln := hid hln
    have H192 := hid h192
    have H128 := hid h128
    clear hk hln h192 h128
    clear hsz
    go_wp2_with fail
    go_loopw [7, 9] (fun nv jv wr => ∃ j : Nat, nv = .int .i64 (accN s i j) ∧ jv = .int .i64 ((j : Int) + 1) ∧ j + 1 ≤ 2 ∧ w = wr ∧ Hid (contB s i j)) (fun _ jv _ => 2 - (intOf jv).toNat)
    case atStart => exact ⟨0, by show _ = Value.int .i64 (leadN _); rw [Hln.out], rfl, by decide, rfl, hid (fun m a b => by omega)⟩
    case round =>
      obtain ⟨j, rfl, rfl, hj, rfl, HC⟩ := hrel
      have hab := accN_bnd H192.out j (by omega) HC.out
      have hab2 : 0 ≤ accN s i j ∧ accN s i j ≤ 8388607 := by
        rcases (by omega : j = 0 ∨ j = 1 ∨ j = 2 ∨ j = 3) with rfl | rfl | rfl | rfl <;> omega
      obtain ⟨hab0, hab1⟩ := hab2
      clear hab
      by_cases hlt : j + 1 < 2
      · have hltI : (j : Int) + 1 < 2 := by omega
        have hij : i + (j + 1) < s.size := by omega
        have hijI : (i : Int) + ((j : Int) + 1) < (s.size : Int) := by omega
        have hcb := byteI_at s (i + (j + 1)) hij
        have hcb2 := byteI_bnd s (i + (j + 1))
        have hacc : accN s i (j + 1) = accN s i j * 64 + byteI s (i + (j + 1)) - 128 := rfl
        rw [hcb] at hcb2 hacc
        generalize hy : s[i + (j + 1)].toNat = y at *
        have hyb : (y : Int) ≤ 255 := by omega
        by_cases t1 : y < 128
        · have t1I : (y : Int) < 128 := by omega
          have he := HnP.out H128.out (Or.inr (Or.inr ⟨j + 1, by omega, by rw [Hk.out]; omega, by rw [hcb]; omega⟩))
          injection he with e1 e2
          subst e1 e2
          clear hcb hacc hcb2
          generalize accN s i j = n at *
          go_wp2_with fail
          exact hR'.out _ _ ⟨rfl, Keeps.refl _ _⟩
        have t1I : ¬ (y : Int) < 128 := by omega
        by_cases t2 : 191 < y
        · have t2I : 191 < (y : Int) := by omega
          have he := HnP.out H128.out (Or.inr (Or.inr ⟨j + 1, by omega, by rw [Hk.out]; omega, by rw [hcb]; omega⟩))
          injection he with e1 e2
          subst e1 e2
          clear hcb hacc hcb2
          generalize accN s i j = n at *
          go_wp2_with fail
          exact hR'.out _ _ ⟨rfl, Keeps.refl _ _⟩
        have t2I : ¬ 191 < (y : Int) := by omega
        have hc2 : contB s i (j + 1) := fun m a b => by
          by_cases hm : m ≤ j
          · exact HC.out m a hm
          · obtain rfl : m = j + 1 := by omega
            rw [hcb]; omega
        have Hacc := hid hacc
        have Hc2 := hid hc2
        clear hacc hc2
        clear hcb hcb2
        generalize accN s i j = n at *
        go_wp2_with fail
        go_roundw
        case rel => exact ⟨j + 1, by rw [Hacc.out]; try go_num, by go_num, by omega, by first | trivial | rfl, Hc2⟩
        case measure => first | (simp [intOf]; done) | (simp [intOf]; omega)
      · obtain rfl : j = 1 := by omega
        have hsm := atP_some s i 1 hi H192.out (by rw [Hk.out]; rfl) (by omega) HC.out
        rw [Hat.out] at hsm
        generalize accN s i 1 = n at *
        have Hsm := hid hsm
        clear hsm
        go_wp2_with fail
        refine (ref4_may n w).mono ?_
        rintro e w2 ⟨rfl, rfl⟩
        cases hv : Utf8.valid n with
        | false =>
          have he := Hsm.out.2 (fun h => by rw [hv] at h; exact absurd h.1 (by decide))
          injection he with e1 e2
          subst e1 e2
          clear hv
          go_wp2_with fail
          exact hR'.out _ _ ⟨rfl, Keeps.refl _ _⟩
        | true =>
          go_wp2_with fail
          refine (ref4_bytes n (by omega) w).mono ?_
          rintro e w2 ⟨v, rfl, hN⟩
          obtain ⟨A, c, rfl⟩ := ownB_form hN.1
          have hk2 := hN.2
          clear hN
          by_cases hl : (encB n).length = 2
          · have he := Hsm.out.1 ⟨hv, hl⟩
            injection he with e1 e2
            have hlb : (((encB n).length : Int) != 2) = false := by simp [hl]
            clear hl hv
            have Hk2 := hid hk2
            have E1 := hid e1
            have E2 := hid e2
            clear hk2 e1 e2
            go_wp2_with fail
            exact hR'.out _ _ ⟨by rw [E1.out, E2.out]; rfl, Hk2.out⟩
          · have he := Hsm.out.2 (fun h => hl h.2)
            injection he with e1 e2
            subst e1 e2
            have hlb : (((encB n).length : Int) != 2) = true := by simp; omega
            clear hl hv
            have Hk2 := hid hk2
            clear hk2
            go_wp2_with fail
            exact hR'.out _ _ ⟨rfl, Hk2.out⟩
  · have a1 : 192 ≤ (z : Int) := by omega
    have a2 : ¬ (z : Int) < 224 := by omega
    have a3 : 224 ≤ (z : Int) := by omega
    have a5 : (z : Int) < 240 := by omega
    have a4 : ¬ 240 ≤ (z : Int) := by omega
    have hk : leadK (byteI s i) = 3 := by
      unfold leadK
      repeat' split
      all_goals omega
    have hln : leadN (byteI s i) = (z : Int) - 224 := by
      unfold leadN
      repeat' split
      all_goals omega
    have hzb : (z : Int) ≤ 255 := by omega
    have h192 : 192 ≤ byteI s i ∧ byteI s i < 248 := by omega
    have h128 : 128 ≤ byteI s i := by omega
    clear g1 g2 g3 hb hba
    by_cases hsz : s.size - i < 3
    · have hszI : (s.size : Int) - (i : Int) < 3 := by omega
      have he := HnP.out h128 (Or.inr (Or.inl (by rw [hk]; omega)))
      injection he with e1 e2
      subst e1 e2
      clear hk hln h192 h128 hsz
      go_wp2_with fail
      exact hR'.out _ _ ⟨rfl, Keeps.refl _ _⟩
    have hszI : ¬ (s.size : Int) - (i : Int) < 3 := by omega
    have hsz2 : i + 3 ≤ s.size := by omega
    have Hk := hid hk
    have Hln := hid hln
    have H192 := hid h192
    have H128 := hid h128
    clear hk hln h192 h128
    clear hsz
    go_wp2_with fail
    go_loopw [7, 9] (fun nv jv wr => ∃ j : Nat, nv = .int .i64 (accN s i j) ∧ jv = .int .i64 ((j : Int) + 1) ∧ j + 1 ≤ 3 ∧ w = wr ∧ Hid (contB s i j)) (fun _ jv _ => 3 - (intOf jv).toNat)
    case atStart => exact ⟨0, by show _ = Value.int .i64 (leadN _); rw [Hln.out], rfl, by decide, rfl, hid (fun m a b => by omega)⟩
    case round =>
      obtain ⟨j, rfl, rfl, hj, rfl, HC⟩ := hrel
      have hab := accN_bnd H192.out j (by omega) HC.out
      have hab2 : 0 ≤ accN s i j ∧ accN s i j ≤ 8388607 := by
        rcases (by omega : j = 0 ∨ j = 1 ∨ j = 2 ∨ j = 3) with rfl | rfl | rfl | rfl <;> omega
      obtain ⟨hab0, hab1⟩ := hab2
      clear hab
      by_cases hlt : j + 1 < 3
      · have hltI : (j : Int) + 1 < 3 := by omega
        have hij : i + (j + 1) < s.size := by omega
        have hijI : (i : Int) + ((j : Int) + 1) < (s.size : Int) := by omega
        have hcb := byteI_at s (i + (j + 1)) hij
        have hcb2 := byteI_bnd s (i + (j + 1))
        have hacc : accN s i (j + 1) = accN s i j * 64 + byteI s (i + (j + 1)) - 128 := rfl
        rw [hcb] at hcb2 hacc
        generalize hy : s[i + (j + 1)].toNat = y at *
        have hyb : (y : Int) ≤ 255 := by omega
        by_cases t1 : y < 128
        · have t1I : (y : Int) < 128 := by omega
          have he := HnP.out H128.out (Or.inr (Or.inr ⟨j + 1, by omega, by rw [Hk.out]; omega, by rw [hcb]; omega⟩))
          injection he with e1 e2
          subst e1 e2
          clear hcb hacc hcb2
          generalize accN s i j = n at *
          go_wp2_with fail
          exact hR'.out _ _ ⟨rfl, Keeps.refl _ _⟩
        have t1I : ¬ (y : Int) < 128 := by omega
        by_cases t2 : 191 < y
        · have t2I : 191 < (y : Int) := by omega
          have he := HnP.out H128.out (Or.inr (Or.inr ⟨j + 1, by omega, by rw [Hk.out]; omega, by rw [hcb]; omega⟩))
          injection he with e1 e2
          subst e1 e2
          clear hcb hacc hcb2
          generalize accN s i j = n at *
          go_wp2_with fail
          exact hR'.out _ _ ⟨rfl, Keeps.refl _ _⟩
        have t2I : ¬ 191 < (y : Int) := by omega
        have hc2 : contB s i (j + 1) := fun m a b => by
          by_cases hm : m ≤ j
          · exact HC.out m a hm
          · obtain rfl : m = j + 1 := by omega
            rw [hcb]; omega
        have Hacc := hid hacc
        have Hc2 := hid hc2
        clear hacc hc2
        clear hcb hcb2
        generalize accN s i j = n at *
        go_wp2_with fail
        go_roundw
        case rel => exact ⟨j + 1, by rw [Hacc.out]; try go_num, by go_num, by omega, by first | trivial | rfl, Hc2⟩
        case measure => first | (simp [intOf]; done) | (simp [intOf]; omega)
      · obtain rfl : j = 2 := by omega
        have hsm := atP_some s i 2 hi H192.out (by rw [Hk.out]; rfl) (by omega) HC.out
        rw [Hat.out] at hsm
        generalize accN s i 2 = n at *
        have Hsm := hid hsm
        clear hsm
        go_wp2_with fail
        refine (ref4_may n w).mono ?_
        rintro e w2 ⟨rfl, rfl⟩
        cases hv : Utf8.valid n with
        | false =>
          have he := Hsm.out.2 (fun h => by rw [hv] at h; exact absurd h.1 (by decide))
          injection he with e1 e2
          subst e1 e2
          clear hv
          go_wp2_with fail
          exact hR'.out _ _ ⟨rfl, Keeps.refl _ _⟩
        | true =>
          go_wp2_with fail
          refine (ref4_bytes n (by omega) w).mono ?_
          rintro e w2 ⟨v, rfl, hN⟩
          obtain ⟨A, c, rfl⟩ := ownB_form hN.1
          have hk2 := hN.2
          clear hN
          by_cases hl : (encB n).length = 3
          · have he := Hsm.out.1 ⟨hv, hl⟩
            injection he with e1 e2
            have hlb : (((encB n).length : Int) != 3) = false := by simp [hl]
            clear hl hv
            have Hk2 := hid hk2
            have E1 := hid e1
            have E2 := hid e2
            clear hk2 e1 e2
            go_wp2_with fail
            exact hR'.out _ _ ⟨by rw [E1.out, E2.out]; rfl, Hk2.out⟩
          · have he := Hsm.out.2 (fun h => hl h.2)
            injection he with e1 e2
            subst e1 e2
            have hlb : (((encB n).length : Int) != 3) = true := by simp; omega
            clear hl hv
            have Hk2 := hid hk2
            clear hk2
            go_wp2_with fail
            exact hR'.out _ _ ⟨rfl, Hk2.out⟩
  · have a1 : 192 ≤ (z : Int) := by omega
    have a2 : ¬ (z : Int) < 224 := by omega
    have a3 : 224 ≤ (z : Int) := by omega
    have a5 : ¬ (z : Int) < 240 := by omega
    have a4 : 240 ≤ (z : Int) := by omega
    have a6 : (z : Int) < 248 := by omega
    have hk : leadK (byteI s i) = 4 := by
      unfold leadK
      repeat' split
      all_goals omega
    have hln : leadN (byteI s i) = (z : Int) - 240 := by
      unfold leadN
      repeat' split
      all_goals omega
    have hzb : (z : Int) ≤ 255 := by omega
    have h192 : 192 ≤ byteI s i ∧ byteI s i < 248 := by omega
    have h128 : 128 ≤ byteI s i := by omega
    clear g1 g2 g3 hb hba
    by_cases hsz : s.size - i < 4
    · have hszI : (s.size : Int) - (i : Int) < 4 := by omega
      have he := HnP.out h128 (Or.inr (Or.inl (by rw [hk]; omega)))
      injection he with e1 e2
      subst e1 e2
      clear hk hln h192 h128 hsz
      go_wp2_with fail
      exact hR'.out _ _ ⟨rfl, Keeps.refl _ _⟩
    have hszI : ¬ (s.size : Int) - (i : Int) < 4 := by omega
    have hsz2 : i + 4 ≤ s.size := by omega
    have Hk := hid hk
    have Hln := hid hln
    have H192 := hid h192
    have H128 := hid h128
    clear hk hln h192 h128
    clear hsz
    go_wp2_with fail
    go_loopw [7, 9] (fun nv jv wr => ∃ j : Nat, nv = .int .i64 (accN s i j) ∧ jv = .int .i64 ((j : Int) + 1) ∧ j + 1 ≤ 4 ∧ w = wr ∧ Hid (contB s i j)) (fun _ jv _ => 4 - (intOf jv).toNat)
    case atStart => exact ⟨0, by show _ = Value.int .i64 (leadN _); rw [Hln.out], rfl, by decide, rfl, hid (fun m a b => by omega)⟩
    case round =>
      obtain ⟨j, rfl, rfl, hj, rfl, HC⟩ := hrel
      have hab := accN_bnd H192.out j (by omega) HC.out
      have hab2 : 0 ≤ accN s i j ∧ accN s i j ≤ 8388607 := by
        rcases (by omega : j = 0 ∨ j = 1 ∨ j = 2 ∨ j = 3) with rfl | rfl | rfl | rfl <;> omega
      obtain ⟨hab0, hab1⟩ := hab2
      clear hab
      by_cases hlt : j + 1 < 4
      · have hltI : (j : Int) + 1 < 4 := by omega
        have hij : i + (j + 1) < s.size := by omega
        have hijI : (i : Int) + ((j : Int) + 1) < (s.size : Int) := by omega
        have hcb := byteI_at s (i + (j + 1)) hij
        have hcb2 := byteI_bnd s (i + (j + 1))
        have hacc : accN s i (j + 1) = accN s i j * 64 + byteI s (i + (j + 1)) - 128 := rfl
        rw [hcb] at hcb2 hacc
        generalize hy : s[i + (j + 1)].toNat = y at *
        have hyb : (y : Int) ≤ 255 := by omega
        by_cases t1 : y < 128
        · have t1I : (y : Int) < 128 := by omega
          have he := HnP.out H128.out (Or.inr (Or.inr ⟨j + 1, by omega, by rw [Hk.out]; omega, by rw [hcb]; omega⟩))
          injection he with e1 e2
          subst e1 e2
          clear hcb hacc hcb2
          generalize accN s i j = n at *
          go_wp2_with fail
          exact hR'.out _ _ ⟨rfl, Keeps.refl _ _⟩
        have t1I : ¬ (y : Int) < 128 := by omega
        by_cases t2 : 191 < y
        · have t2I : 191 < (y : Int) := by omega
          have he := HnP.out H128.out (Or.inr (Or.inr ⟨j + 1, by omega, by rw [Hk.out]; omega, by rw [hcb]; omega⟩))
          injection he with e1 e2
          subst e1 e2
          clear hcb hacc hcb2
          generalize accN s i j = n at *
          go_wp2_with fail
          exact hR'.out _ _ ⟨rfl, Keeps.refl _ _⟩
        have t2I : ¬ 191 < (y : Int) := by omega
        have hc2 : contB s i (j + 1) := fun m a b => by
          by_cases hm : m ≤ j
          · exact HC.out m a hm
          · obtain rfl : m = j + 1 := by omega
            rw [hcb]; omega
        have Hacc := hid hacc
        have Hc2 := hid hc2
        clear hacc hc2
        clear hcb hcb2
        generalize accN s i j = n at *
        go_wp2_with fail
        go_roundw
        case rel => exact ⟨j + 1, by rw [Hacc.out]; try go_num, by go_num, by omega, by first | trivial | rfl, Hc2⟩
        case measure => first | (simp [intOf]; done) | (simp [intOf]; omega)
      · obtain rfl : j = 3 := by omega
        have hsm := atP_some s i 3 hi H192.out (by rw [Hk.out]; rfl) (by omega) HC.out
        rw [Hat.out] at hsm
        generalize accN s i 3 = n at *
        have Hsm := hid hsm
        clear hsm
        go_wp2_with fail
        refine (ref4_may n w).mono ?_
        rintro e w2 ⟨rfl, rfl⟩
        cases hv : Utf8.valid n with
        | false =>
          have he := Hsm.out.2 (fun h => by rw [hv] at h; exact absurd h.1 (by decide))
          injection he with e1 e2
          subst e1 e2
          clear hv
          go_wp2_with fail
          exact hR'.out _ _ ⟨rfl, Keeps.refl _ _⟩
        | true =>
          go_wp2_with fail
          refine (ref4_bytes n (by omega) w).mono ?_
          rintro e w2 ⟨v, rfl, hN⟩
          obtain ⟨A, c, rfl⟩ := ownB_form hN.1
          have hk2 := hN.2
          clear hN
          by_cases hl : (encB n).length = 4
          · have he := Hsm.out.1 ⟨hv, hl⟩
            injection he with e1 e2
            have hlb : (((encB n).length : Int) != 4) = false := by simp [hl]
            clear hl hv
            have Hk2 := hid hk2
            have E1 := hid e1
            have E2 := hid e2
            clear hk2 e1 e2
            go_wp2_with fail
            exact hR'.out _ _ ⟨by rw [E1.out, E2.out]; rfl, Hk2.out⟩
          · have he := Hsm.out.2 (fun h => hl h.2)
            injection he with e1 e2
            subst e1 e2
            have hlb : (((encB n).length : Int) != 4) = true := by simp; omega
            clear hl hv
            have Hk2 := hid hk2
            clear hk2
            go_wp2_with fail
            exact hR'.out _ _ ⟨rfl, Hk2.out⟩
end Go.Proofs.YtbepgbkbpkaodaaDoor
