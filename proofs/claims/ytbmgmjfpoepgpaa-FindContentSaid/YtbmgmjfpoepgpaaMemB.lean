/- Contracts: mem.Cells; Same of the first reference. -/
import Derived.Test.YtbmgmjfpoepgpaaRun
import Derived.Laws.CopyOwn
namespace Go.Proofs.Ytbmgmjfpoepgpaa
open Go.RowKit

theorem Try.sizeU : (Try.prog.info? 55).map (·.size) = some 1 := by kernel_rfl

set_option maxRecDepth 100000 in
set_option maxHeartbeats 400000 in
theorem mem_cells {w : World} {m c : Nat} {μ : MemS} (h : MemAt w m c μ) :
    Calls Try.prog 28 #[.pointer (some ⟨m, 0, none⟩)] w fun e w' =>
      e = .returned (.slice (some ⟨w.heap.size, 0, none⟩) μ.cells.length μ.cells.length) ∧ Blk w' w.heap.size (μ.cells.map (Value.int .u32)) ∧ Keeps (· < w.heap.size) w w' := by
  have hs := h.small
  have c0 := h.obj.cell 0
  have c1 := h.obj.cell 1
  have hlt := h.obj.lt
  simp only [List.getElem?_cons_zero, List.getElem?_cons_succ] at c0 c1
  have hmk := fun w => run_make_row' (P := Try.prog) 32 55 (.int .u32 0) 4 Try.underlying32 Try.infoU rfl .i64 .i64 μ.cells.length (by omega) (by omega) w
  have hb0 := made_blk w (.int .u32 0) μ.cells.length 55
  have hcw := h.cells.alloc (.cells (madeCells #[.int .u32 0] μ.cells.length) 55)
  have hhg : (w.alloc (.cells (madeCells #[.int .u32 0] μ.cells.length) 55)).heap[w.heap.size]? = some (.cells (List.replicate μ.cells.length (Value.int .u32 0)).toArray 55 (0, 0)) := by
    have e : madeCells #[Value.int .u32 0] μ.cells.length = (List.replicate μ.cells.length (Value.int .u32 0)).toArray := by
      apply Array.ext'; rw [toList_madeCells_one]
    rw [e]; exact heap_alloc_new w _
  have HG := hid hhg
  have HC := hid hcw
  have HN := hid (show (μ.cells.map (Value.int .u32)).length = μ.cells.length from List.length_map ..)
  clear h hb0 hcw hhg
  refine calls_hide fun R' hR' => ?_
  go_enter Try.func28, Try.ntmps28
  go_wp2_with (with_reducible refine wpList_copy_splice rfl (.tmp 12) (.tmp 16) 32 32 rfl 55 Try.underlying32 Try.sizeU _ _ _ _ _ _ rfl rfl w.heap.size 0 (List.replicate μ.cells.length (Value.int .u32 0)) 55 HG.out (μ.cells.map (Value.int .u32)) ?hn ?hpos ?hfit ?h1 w.heap.size w ?hb (Nat.le_refl _) ?_)
  case hn => rw [HN.out]; simp
  case hpos => intro _ j x hj; rw [HC.out.cell, List.getElem?_map, hj]; rfl
  case hfit => simp
  case h1 => intro u hu; obtain ⟨x, _, rfl⟩ := List.mem_map.1 hu; rfl
  case hb => exact (Below.refl _ _).alloc (Nat.le_refl _) _
  intro w' hg' hb'
  have HB := hid hb'
  clear hb'
  go_wp2
  refine hR'.out _ _ ⟨rfl, ⟨55, ?_⟩, Below.keeps HB.out fun b hb => hb⟩
  have := hg'.out
  rw [this]
  congr 3
  simp [splice]
set_option maxRecDepth 100000 in
set_option maxHeartbeats 1000000 in
theorem same_any {w : World} {K : Nat → Prop} {xs ys : List Int} {va vb : Value} (ha : SlAt w K 1 va xs.length (xs.map (Value.int .u32))) (hb : SlAt w K 1 vb ys.length (ys.map (Value.int .u32))) :
    Calls Try.prog 27 #[va, vb] w fun e w' => e = .returned (.bool (decide (xs = ys))) ∧ ∃ n, w.drewN n = w' := by
  have HA := hid ha
  have HB := hid hb
  obtain ⟨A, ca, rfl, h1, h2⟩ := ha.form
  obtain ⟨B, cb, rfl, h3, h4⟩ := hb.form
  unfold maxLen at h2 h4
  clear ha hb
  refine calls_hide fun R' hR' => ?_
  by_cases hl : xs.length = ys.length
  · have hbf : ((xs.length : Int) != (ys.length : Int)) = false := by simp [hl]
    have HL := hid hl
    clear hl
    go_enter Try.func27, Try.ntmps27
    go_wp2_with fail
    go_loopw [13] (fun i wr => ∃ k n : Nat, i = .int .i64 k ∧ k ≤ xs.length ∧ w.drewN n = wr ∧ xs.take k = ys.take k) (fun i _ => xs.length - (intOf i).toNat)
    case atStart => exact ⟨0, 0, rfl, Nat.zero_le _, rfl, rfl⟩
    case round =>
      obtain ⟨k, n, rfl, hk, hw, htk⟩ := hrel
      have HT := hid htk
      have HW := hid hw
      clear htk hw
      by_cases hlt : k < xs.length
      · obtain ⟨b1, o1, c1, e1, _, x1⟩ := HA.out.get k xs[k] (List.getElem?_eq_getElem hlt)
        obtain ⟨b2, o2, c2, e2, _, x2⟩ := HB.out.get k (ys[k]'(by have := HL.out; omega)) (List.getElem?_eq_getElem _)
        injection e1 with e1 _ e1'
        injection e2 with e2 _ e2'
        subst e1 e1' e2 e2'
        have y1 : wr.cell? ⟨b1, o1 + k, none⟩ = some (.int .u32 xs[k]) := by rw [← HW.out]; exact x1
        have y2 : wr.cell? ⟨b2, o2 + k, none⟩ = some (.int .u32 (ys[k]'(by have := HL.out; omega))) := by rw [← HW.out]; exact x2
        have hlt2 : k < ys.length := by have := HL.out; omega
        have i1 : (k : Int) < (xs.length : Int) := by omega
        have i2 : (k : Int) < (ys.length : Int) := by omega
        generalize hx : xs[k] = x at *
        generalize hy : ys[k] = y at *
        have HX := hid hx
        have HY := hid hy
        clear hx hy x1 x2
        by_cases hxy : x = y
        · have hb : (x != y) = false := by simp [hxy]
          have HXY := hid hxy
          clear hxy
          go_wp2_with fail
          go_quiet (fail)
          go_wp2_with fail
          go_roundw
          case rel => exact ⟨k + 1, n + nq, by go_num, by omega, by rw [← HW.out]; simp [World.drewN, Nat.add_assoc], by
            rw [List.take_succ_eq_append_getElem hlt, List.take_succ_eq_append_getElem hlt2, HT.out, HX.out, HY.out, HXY.out]⟩
          case measure => simp [intOf]; omega
        · have hb : (x != y) = true := by simp [hxy]
          have HXY := hid hxy
          clear hxy
          go_wp2_with fail
          go_quiet (fail)
          go_wp2_with fail
          refine hR'.out _ _ ⟨?_, n + nq, by rw [← HW.out]; simp [World.drewN, Nat.add_assoc]⟩
          have : xs ≠ ys := fun e => HXY.out (by rw [← HX.out, ← HY.out]; simp [e])
          simp [this]
      · have hkl : k = xs.length := by omega
        subst hkl
        go_wp2_with fail
        refine hR'.out _ _ ⟨?_, n, HW.out⟩
        have : xs = ys := by have := HT.out; rw [List.take_length, HL.out, List.take_length] at this; exact this
        simp [this]
  · have hbf : ((xs.length : Int) != (ys.length : Int)) = true := by simp; omega
    have HL := hid hl
    clear hl
    go_enter Try.func27, Try.ntmps27
    go_wp2_with fail
    refine hR'.out _ _ ⟨?_, 0, rfl⟩
    have : xs ≠ ys := fun e => HL.out (by rw [e])
    simp [this]
end Go.Proofs.Ytbmgmjfpoepgpaa
