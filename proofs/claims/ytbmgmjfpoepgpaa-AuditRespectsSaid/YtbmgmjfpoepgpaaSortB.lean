/- Contracts: slices.rotateCmpFunc; slices.insertionSortCmpFunc. -/
import Derived.Test.YtbmgmjfpoepgpaaSortA
namespace Go.Proofs.Ytbmgmjfpoepgpaa
open Go.RowKit

set_option maxRecDepth 100000 in
set_option maxHeartbeats 2000000 in
theorem rotate_ok {w : World} {K : Nat → Prop} {b n cap a m e : Nat} {P U V S : List Nat} (f : Value) (hR : Row w b (P ++ U ++ V ++ S)) (hK : ¬ K b)
    (hn : n = (P ++ U ++ V ++ S).length) (ha : a = P.length) (hm : m = P.length + U.length) (he : e = P.length + U.length + V.length) (hU : 0 < U.length) (hV : 0 < V.length) (hbig : n ≤ 1099511627776) (hcap : n ≤ cap) (hcb : cap ≤ maxLen) :
    Calls Try.prog 61 #[.slice (some ⟨b, 0, none⟩) n cap, .int .i64 (a : Int), .int .i64 (m : Int), .int .i64 (e : Int), f] w fun e w' =>
      e = .returned (.tuple #[]) ∧ Row w' b (P ++ V ++ U ++ S) ∧ Keeps K w w' := by
  have hcb' := hcb
  unfold maxLen at hcb
  have hlen : n = P.length + U.length + V.length + S.length := by rw [hn]; simp; omega
  have HR := hid hR
  have h1 : a ≤ m := by omega
  have h2 : m ≤ e := by omega
  have h3 : e ≤ n := by omega
  have HP := hid (And.intro ha (And.intro hm (And.intro he (And.intro hU (And.intro hV hlen)))))
  have HC := hid hcb'
  clear hR ha hm he hU hV hlen hn hcb'
  refine calls_hide fun R' hR' => ?_
  go_enter Try.func61, Try.ntmps61
  go_wp2_with fail
  go_loopw [10, 11] (fun vi vj wr => ∃ (i j : Nat) (A U1 V1 B : List Nat), vi = .int .i64 (i : Int) ∧ vj = .int .i64 (j : Int) ∧ 0 < i ∧ 0 < j ∧ i ≤ m ∧ m + j ≤ e ∧ Hid (U1.length = i ∧ V1.length = j ∧ m = P.length + A.length + i ∧
      A ++ V1 ++ U1 ++ B = V ++ U ∧ Row wr b ((P ++ A) ++ U1 ++ V1 ++ (B ++ S)) ∧ Keeps K w wr)) (fun i j _ => (intOf i).toNat + (intOf j).toNat)
  case atStart =>
    obtain ⟨ha, hm, he, hU, hV, hlen⟩ := HP.out
    refine ⟨m - a, e - m, [], U, V, [], by congr 1; omega, by congr 1; omega, by omega, by omega, by omega, by omega, hid ⟨by omega, by omega, by simp; omega, by simp, by simpa using HR.out, Keeps.refl _ _⟩⟩
  case round =>
    obtain ⟨i, j, A, U1, V1, B, rfl, rfl, hi, hj, him, hje, HH⟩ := hrel
    rcases Nat.lt_trichotomy i j with hij | hij | hij
    · have t1 : ((i : Int) != (j : Int)) = true := by simp; omega
      have t2 : ¬ (i : Int) > (j : Int) := by omega
      have e1 : (m : Int) - (i : Int) = ((m - i : Nat) : Int) := by omega
      obtain ⟨z, hz⟩ : ∃ z, z = m + j := ⟨_, rfl⟩
      have e2 : (m : Int) + (j : Int) = (z : Int) := by omega
      have e3 : (z : Int) - (i : Int) = ((z - i : Nat) : Int) := by omega
      have HZ := hid hz
      have hz0 : z ≤ n := by omega
      have hz1 : i < z := by omega
      clear hz
      have e4 : (j : Int) - (i : Int) = ((j - i : Nat) : Int) := by omega
      go_wp2_with fail
      obtain ⟨hu, hv, hm, heq, hR1, hk1⟩ := HH.out
      obtain ⟨ha, hm2, he, hU, hV, hlen⟩ := HP.out
      have hz := HZ.out
      have ev : V1 = V1.take (j - i) ++ V1.drop (j - i) := (List.take_append_drop _ _).symm
      refine (swap_range (w := wr) (p := m - i) (q := z - i) (k := i) (P := P ++ A) (U := U1) (M := V1.take (j - i)) (V := V1.drop (j - i)) (S := B ++ S) f (by rw [ev] at hR1; simpa [List.append_assoc] using hR1) hK (by
        have := congrArg List.length heq
        simp at this ⊢; omega) (by simp; omega) (by simp; omega) (by omega) (by simp; omega) hbig hcap HC.out).mono ?_
      rintro e w' ⟨rfl, hR2, hk2⟩
      have HN := hid (show V1.drop (j - i) ++ [] = V1.drop (j - i) ∧ (V1.drop (j - i)).length = i ∧ (V1.take (j - i)).length = j - i ∧ m = P.length + A.length + i ∧
        A ++ V1.take (j - i) ++ V1.drop (j - i) ++ (U1 ++ B) = V ++ U ∧ Row w' b ((P ++ A) ++ V1.drop (j - i) ++ V1.take (j - i) ++ ((U1 ++ B) ++ S)) ∧ Keeps K w w' from
        ⟨by simp, by simp; omega, by simp; omega, hm, by rw [ev] at heq; simpa [List.append_assoc] using heq, by simpa [List.append_assoc] using hR2, hk1.trans hk2⟩)
      clear hu hv hm heq hR1 hk1 ev hR2 hk2 HH ha hm2 he hU hV hlen hz HZ
      go_wp2_with fail
      go_roundw
      case rel => exact ⟨i, j - i, A, V1.drop (j - i), V1.take (j - i), U1 ++ B, by first | rfl | go_num, by first | rfl | go_num, by omega, by omega, by omega, by omega, hid HN.out.2⟩
      case measure => simp [intOf]; omega
    · subst hij
      have t1 : ((i : Int) != (i : Int)) = false := by simp
      have e1 : (m : Int) - (i : Int) = ((m - i : Nat) : Int) := by omega
      go_wp2_with fail
      obtain ⟨hu, hv, hm, heq, hR1, hk1⟩ := HH.out
      obtain ⟨ha, hm2, he, hU, hV, hlen⟩ := HP.out
      refine (swap_range (w := wr) (p := m - i) (q := m) (k := i) (P := P ++ A) (U := U1) (M := []) (V := V1) (S := B ++ S) f (by simpa [List.append_assoc] using hR1) hK (by
        have := congrArg List.length heq
        simp at this ⊢; omega) (by simp; omega) (by simp; omega) (by omega) (by omega) hbig hcap HC.out).mono ?_
      rintro e w' ⟨rfl, hR2, hk2⟩
      have HN := hid (show Row w' b (P ++ V ++ U ++ S) ∧ Keeps K w w' from ⟨by
        have : P ++ V ++ U ++ S = P ++ (A ++ V1 ++ U1 ++ B) ++ S := by rw [heq]; simp
        rw [this]; simpa [List.append_assoc] using hR2, hk1.trans hk2⟩)
      clear hu hv hm heq hR1 hk1 hR2 hk2 HH ha hm2 he hU hV hlen
      go_wp2_with fail
      go_end0
      exact hR'.out _ _ ⟨rfl, HN.out⟩
    · have t1 : ((i : Int) != (j : Int)) = true := by simp; omega
      have t2 : (i : Int) > (j : Int) := by omega
      have e1 : (m : Int) - (i : Int) = ((m - i : Nat) : Int) := by omega
      have e4 : (i : Int) - (j : Int) = ((i - j : Nat) : Int) := by omega
      go_wp2_with fail
      obtain ⟨hu, hv, hm, heq, hR1, hk1⟩ := HH.out
      obtain ⟨ha, hm2, he, hU, hV, hlen⟩ := HP.out
      have ev : U1 = U1.take j ++ U1.drop j := (List.take_append_drop _ _).symm
      refine (swap_range (w := wr) (p := m - i) (q := m) (k := j) (P := P ++ A) (U := U1.take j) (M := U1.drop j) (V := V1) (S := B ++ S) f (by rw [ev] at hR1; simpa [List.append_assoc] using hR1) hK (by
        have := congrArg List.length heq
        simp at this ⊢; omega) (by simp; omega) (by simp; omega) (by simp; omega) (by simp; omega) hbig hcap HC.out).mono ?_
      rintro e w' ⟨rfl, hR2, hk2⟩
      have HN := hid (show (U1.drop j).length = i - j ∧ (U1.take j).length = j ∧ m = P.length + (A ++ V1).length + (i - j) ∧
        (A ++ V1) ++ U1.take j ++ U1.drop j ++ B = V ++ U ∧ Row w' b ((P ++ (A ++ V1)) ++ U1.drop j ++ U1.take j ++ (B ++ S)) ∧ Keeps K w w' from
        ⟨by simp; omega, by simp; omega, by simp; omega, by rw [ev] at heq; simpa [List.append_assoc] using heq, by simpa [List.append_assoc] using hR2, hk1.trans hk2⟩)
      clear hu hv hm heq hR1 hk1 ev hR2 hk2 HH ha hm2 he hU hV hlen
      go_wp2_with fail
      go_roundw
      case rel => exact ⟨i - j, j, A ++ V1, U1.drop j, U1.take j, B, by first | rfl | go_num, by first | rfl | go_num, by omega, by omega, by omega, by omega, hid HN.out⟩
      case measure => simp [intOf]; omega
end Go.Proofs.Ytbmgmjfpoepgpaa
