/- Contracts: mem.Cells; Same of the first reference. -/
import Derived.Test.YtbmgmjfpoepgpaaDoorRun
import Derived.Laws.CopyOwn
namespace Go.Proofs.YtbmgmjfpoepgpaaDoor
open Go.RowKit

theorem Tryd.sizeU : (Tryd.prog.info? 41).map (·.size) = some 1 := by kernel_rfl

set_option maxRecDepth 100000 in
set_option maxHeartbeats 1000000 in
theorem same_any {w : World} {K : Nat → Prop} {xs ys : List Int} {va vb : Value} (ha : SlAt w K 1 va xs.length (xs.map (Value.int .u32))) (hb : SlAt w K 1 vb ys.length (ys.map (Value.int .u32))) :
    Calls Tryd.prog 23 #[va, vb] w fun e w' => e = .returned (.bool (decide (xs = ys))) ∧ ∃ n, w.drewN n = w' := by
  have HA := hid ha
  have HB := hid hb
  obtain ⟨A, ca, rfl, h1, h2⟩ := ha.form
  obtain ⟨B, cb, rfl, h3, h4⟩ := hb.form
  unfold maxLen at h2 h4
  clear ha hb
  refine calls_hide fun R' hR' => ?_
  by_cases hl : xs.length = ys.length
  · have hbf : ((xs.length : Int) != (ys.length : Int)) = false := by simp [hl]
    have HL := hid hl
    clear hl
    go_enter Tryd.func23, Tryd.ntmps23
    go_wp2_with fail
    go_loopw [13] (fun i wr => ∃ k n : Nat, i = .int .i64 k ∧ k ≤ xs.length ∧ w.drewN n = wr ∧ xs.take k = ys.take k) (fun i _ => xs.length - (intOf i).toNat)
    case atStart => exact ⟨0, 0, rfl, Nat.zero_le _, rfl, rfl⟩
    case round =>
      obtain ⟨k, n, rfl, hk, hw, htk⟩ := hrel
      have HT := hid htk
      have HW := hid hw
      clear htk hw
      by_cases hlt : k < xs.length
      · obtain ⟨b1, o1, c1, e1, _, x1⟩ := HA.out.get k xs[k] (List.getElem?_eq_getElem hlt)
        obtain ⟨b2, o2, c2, e2, _, x2⟩ := HB.out.get k (ys[k]'(by have := HL.out; omega)) (List.getElem?_eq_getElem _)
        injection e1 with e1 _ e1'
        injection e2 with e2 _ e2'
        subst e1 e1' e2 e2'
        have y1 : wr.cell? ⟨b1, o1 + k, none⟩ = some (.int .u32 xs[k]) := by rw [← HW.out]; exact x1
        have y2 : wr.cell? ⟨b2, o2 + k, none⟩ = some (.int .u32 (ys[k]'(by have := HL.out; omega))) := by rw [← HW.out]; exact x2
        have hlt2 : k < ys.length := by have := HL.out; omega
        have i1 : (k : Int) < (xs.length : Int) := by omega
        have i2 : (k : Int) < (ys.length : Int) := by omega
        generalize hx : xs[k] = x at *
        generalize hy : ys[k] = y at *
        have HX := hid hx
        have HY := hid hy
        clear hx hy x1 x2
        by_cases hxy : x = y
        · have hb : (x != y) = false := by simp [hxy]
          have HXY := hid hxy
          clear hxy
          go_wp2_with fail
          go_quiet (fail)
          go_wp2_with fail
          go_roundw
          case rel => exact ⟨k + 1, n + nq, by go_num, by omega, by rw [← HW.out]; simp [World.drewN, Nat.add_assoc], by
            rw [List.take_succ_eq_append_getElem hlt, List.take_succ_eq_append_getElem hlt2, HT.out, HX.out, HY.out, HXY.out]⟩
          case measure => simp [intOf]; omega
        · have hb : (x != y) = true := by simp [hxy]
          have HXY := hid hxy
          clear hxy
          go_wp2_with fail
          go_quiet (fail)
          go_wp2_with fail
          refine hR'.out _ _ ⟨?_, n + nq, by rw [← HW.out]; simp [World.drewN, Nat.add_assoc]⟩
          have : xs ≠ ys := fun e => HXY.out (by rw [← HX.out, ← HY.out]; simp [e])
          simp [this]
      · have hkl : k = xs.length := by omega
        subst hkl
        go_wp2_with fail
        refine hR'.out _ _ ⟨?_, n, HW.out⟩
        have : xs = ys := by have := HT.out; rw [List.take_length, HL.out, List.take_length] at this; exact this
        simp [this]
  · have hbf : ((xs.length : Int) != (ys.length : Int)) = true := by simp; omega
    have HL := hid hl
    clear hl
    go_enter Tryd.func23, Tryd.ntmps23
    go_wp2_with fail
    refine hR'.out _ _ ⟨?_, 0, rfl⟩
    have : xs ≠ ys := fun e => HL.out (by rw [e])
    simp [this]
end Go.Proofs.YtbmgmjfpoepgpaaDoor
