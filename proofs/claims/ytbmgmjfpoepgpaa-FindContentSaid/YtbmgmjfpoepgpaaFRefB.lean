/- Contracts of the references: texts in order; whether entries may be. -/
import Derived.Test.YtbmgmjfpoepgpaaFRefA
import Derived.Deep.QuietTactic
import Derived.BigQuiet
namespace Go.Proofs.Ytbmgmjfpoepgpaa
open Go.RowKit

theorem less_drop (a b : List UInt8) (i : Nat) (ha : i < a.length) (hb : i < b.length) : Op.bytesLess (a.drop i) (b.drop i) = (decide (a[i] < b[i]) || (a[i] == b[i] && Op.bytesLess (a.drop (i + 1)) (b.drop (i + 1)))) := by
  rw [List.drop_eq_getElem_cons ha, List.drop_eq_getElem_cons hb, Op.bytesLess]
set_option maxRecDepth 100000 in
set_option maxHeartbeats 1000000 in
theorem ref14_less (a b : ByteArray) (ha : a.size ≤ 140737488351232) (hb : b.size ≤ 140737488351232) (w : World) :
    Calls Try.prog 58 #[.string a, .string b] w fun e w' => e = .returned (.bool (Op.bytesLess a.toList b.toList)) ∧ ∃ n, w.drewN n = w' := by
  refine calls_hide fun R' hR' => ?_
  have HA := hid (show a.toList = a.data.toList from ByteArray.toList_eq a)
  have HB := hid (show b.toList = b.data.toList from ByteArray.toList_eq b)
  go_enter Try.func58, Try.ntmps58
  go_wp2_with fail
  go_loopw [5] (fun iv wr => ∃ (i n : Nat), iv = .int .i64 (i : Int) ∧ i ≤ a.size ∧ i ≤ b.size ∧ Hid (w.drewN n = wr) ∧ Hid (Op.bytesLess (a.data.toList.drop i) (b.data.toList.drop i) = Op.bytesLess a.toList b.toList)) (fun iv _ => a.size - (intOf iv).toNat)
  case atStart => exact ⟨0, 0, rfl, Nat.zero_le _, Nat.zero_le _, hid rfl, hid (by rw [HA.out, HB.out]; rfl)⟩
  case round =>
    obtain ⟨i, n, rfl, hia, hib, HW, HE⟩ := hrel
    by_cases h1 : i < a.size
    · have h1I : (i : Int) < (a.size : Int) := by omega
      by_cases h2 : i < b.size
      · have h2I : (i : Int) < (b.size : Int) := by omega
        have hld := less_drop a.data.toList b.data.toList i (by simpa using h1) (by simpa using h2)
        have ea : a.data.toList[i]'(by simpa using h1) = a[i] := rfl
        have eb : b.data.toList[i]'(by simpa using h2) = b[i] := rfl
        rw [ea, eb, HE.out] at hld
        have Hld := hid hld
        clear hld
        clear ea eb HE
        by_cases hx : a[i] = b[i]
        · have hxb : ((a[i].toNat : Int) != (b[i].toNat : Int)) = false := by simp [hx]
          have hfin : Op.bytesLess a.toList b.toList = Op.bytesLess (a.data.toList.drop (i + 1)) (b.data.toList.drop (i + 1)) := by
            rw [Hld.out, hx]; simp
          have Hfin := hid hfin
          clear hfin
          clear hx Hld
          go_wp2_with fail
          go_quiet (fail)
          go_wp2_with fail
          go_roundw
          case rel => exact ⟨i + 1, n + nq, by go_num, by omega, by omega, hid (by rw [← HW.out]; simp [World.drewN, Nat.add_assoc]), hid (by rw [← Hfin.out])⟩
          case measure => first | (simp [intOf]; done) | (simp [intOf]; omega)
        · have hxn : a[i].toNat ≠ b[i].toNat := fun e => hx (UInt8.toNat_inj.1 e)
          have hxb : ((a[i].toNat : Int) != (b[i].toNat : Int)) = true := by simp; omega
          have hfin : Op.bytesLess a.toList b.toList = decide (a[i] < b[i]) := by
            rw [Hld.out]; simp [hx]
          have hlt : decide (a[i] < b[i]) = decide (a[i].toNat < b[i].toNat) := rfl
          rw [hlt] at hfin
          have Hfin := hid hfin
          clear hfin
          clear hx Hld hlt hxn
          go_wp2_with fail
          go_quiet (fail)
          generalize nq = nA at *
          go_wp2_with fail
          go_quiet (fail)
          go_wp2_with fail
          refine hR'.out _ _ ⟨?_, n + (nA + nq), by rw [← HW.out]; simp [World.drewN, Nat.add_assoc]⟩
          rw [Hfin.out]
          simp
      · have h2I : ¬ (i : Int) < (b.size : Int) := by omega
        have hz : Op.bytesLess a.toList b.toList = false := by
          rw [← HE.out, List.drop_of_length_le (show b.data.toList.length ≤ i by simpa using (by omega : b.size ≤ i))]
          cases a.data.toList.drop i <;> rfl
        have hs : ¬ (a.size : Int) < (b.size : Int) := by omega
        have Hz := hid hz
        clear hz
        clear HE
        go_wp2_with fail
        exact hR'.out _ _ ⟨by rw [Hz.out], n, HW.out⟩
    · have h1I : ¬ (i : Int) < (a.size : Int) := by omega
      by_cases hs : a.size < b.size
      · have hsI : (a.size : Int) < (b.size : Int) := by omega
        have hz : Op.bytesLess a.toList b.toList = true := by
          rw [← HE.out, List.drop_of_length_le (show a.data.toList.length ≤ i by simpa using (by omega : a.size ≤ i)), List.drop_eq_getElem_cons (show i < b.data.toList.length by simpa using (by omega : i < b.size))]
          rfl
        have Hz := hid hz
        clear hz
        clear HE
        go_wp2_with fail
        exact hR'.out _ _ ⟨by rw [Hz.out], n, HW.out⟩
      · have hsI : ¬ (a.size : Int) < (b.size : Int) := by omega
        have hz : Op.bytesLess a.toList b.toList = false := by
          rw [← HE.out, List.drop_of_length_le (show b.data.toList.length ≤ i by simpa using (by omega : b.size ≤ i))]
          cases a.data.toList.drop i <;> rfl
        have Hz := hid hz
        clear hz
        clear HE
        go_wp2_with fail
        exact hR'.out _ _ ⟨by rw [Hz.out], n, HW.out⟩
end Go.Proofs.Ytbmgmjfpoepgpaa
