/- Contracts: mem.New, step.New, a Step of a run that is over; Loads, Stores, Cells. -/
import Derived.Test.YtbmgmjfpoepgpaaStepE
import Derived.Deep.OwnRows
namespace Go.Proofs.Ytbmgmjfpoepgpaa
open Go.RowKit

theorem made_blk (w : World) (z : Value) (n : Nat) (T : TypeId) : Blk (w.alloc (.cells (madeCells #[z] n) T)) w.heap.size (List.replicate n z) := by
  refine ⟨T, ?_⟩
  have h : madeCells #[z] n = (List.replicate n z).toArray := by
    apply Array.ext'
    rw [toList_madeCells_one]
  rw [h]
  exact heap_alloc_new w _

set_option maxHeartbeats 400000 in
theorem mem_new (w : World) (n : Nat) (h1 : 1 ≤ n) (h2 : n ≤ 65536) :
    Calls Try.prog 41 #[.int .i64 n] w fun e w' => e = .returned (.tuple #[.pointer (some ⟨w.heap.size + 1, 0, none⟩), .int .i64 0]) ∧
      MemAt w' (w.heap.size + 1) w.heap.size ⟨List.replicate n 0, 0, 0⟩ ∧ Keeps (· < w.heap.size) w w' ∧ w'.heap.size = w.heap.size + 2 := by
  have hmk := fun w => run_make_row' (P := Try.prog) 32 55 (.int .u32 0) 4 Try.underlying32 Try.infoU rfl .i64 .i64 n (by omega) (by omega) w
  refine calls_hide fun R' hR' => ?_
  go_enter Try.func41, Try.ntmps41
  go_wp2
  refine hR'.out _ _ ⟨rfl, ?_, ?_, ?_⟩
  · have b0 := made_blk w (.int .u32 0) n 55
    refine ⟨?_, ?_, by simp, by simpa using h2, by simp; omega, ?_⟩
    · have := Blk.new (w.alloc (.cells (madeCells #[.int .u32 0] n) 55)) [.slice (some ⟨w.heap.size, 0, none⟩) n n, .int .i64 0, .int .i64 0] 90
      simpa using this
    · simpa using b0.alloc (.cells #[.slice (some ⟨w.heap.size, 0, none⟩) n n, .int .i64 0, .int .i64 0] 90)
    · intro x hx
      rw [List.eq_of_mem_replicate hx]
      unfold U32; omega
  · exact ((Keeps.refl _ w).alloc (fun b hb => hb) _).alloc (fun b hb => by simp; omega) _
  · simp

theorem mem_newI (w : World) (N : Int) (h1 : 1 ≤ N) (h2 : N ≤ 65536) :
    Calls Try.prog 41 #[.int .i64 N] w fun e w' => e = .returned (.tuple #[.pointer (some ⟨w.heap.size + 1, 0, none⟩), .int .i64 0]) ∧
      MemAt w' (w.heap.size + 1) w.heap.size ⟨List.replicate N.toNat 0, 0, 0⟩ ∧ Keeps (· < w.heap.size) w w' ∧ w'.heap.size = w.heap.size + 2 := by
  have h := mem_new w N.toNat (by omega) (by omega)
  rw [Int.toNat_of_nonneg (by omega)] at h
  exact h

set_option maxHeartbeats 400000 in
theorem step_new (w : World) (m : Nat) :
    Calls Try.prog 29 #[.pointer (some ⟨m, 0, none⟩)] w fun e w' => e = .returned (.pointer (some ⟨w.heap.size, 0, none⟩)) ∧
      RunAt w' w.heap.size m (.slice none 0 0) ⟨[], 0, false, false, false, false, 0⟩ ∧ Keeps (· < w.heap.size) w w' ∧ w'.heap.size = w.heap.size + 1 := by
  refine calls_hide fun R' hR' => ?_
  go_enter Try.func29, Try.ntmps29
  go_wp2
  refine hR'.out _ _ ⟨rfl, ?_, ?_, ?_⟩
  · have := Blk.new w [.pointer (some ⟨m, 0, none⟩), .slice none 0 0, .int .i64 0, .bool false, .bool false, .bool false, .bool false, .int .i64 0] 92
    exact ⟨by simpa using this, World.ownsRow_nil _ _ _ _, by simp, by simp, fun x hx => by cases hx⟩
  · exact (Keeps.refl _ w).alloc (fun b hb => hb) _
  · simp

set_option maxHeartbeats 400000 in
theorem run_step_over {w : World} {r m : Nat} {g : Value} {σ : RunS} (h : RunAt w r m g σ) (hov : σ.over = true) (fv : Value) :
    Calls Try.prog 30 #[.pointer (some ⟨r, 0, none⟩), fv] w fun e w' => e = .returned (.bool true) ∧ w = w' := by
  have ⟨c0, c1, c2, c3, c4, c5, c6, c7, fz⟩ := h.facts
  rw [hov] at c6
  clear h hov fz
  refine calls_hide fun R' hR' => ?_
  go_enter Try.func30, Try.ntmps30
  go_wp2_with fail
  exact hR'.out _ _ ⟨rfl, rfl⟩

end Go.Proofs.Ytbmgmjfpoepgpaa
